/- Functions of the program as plain Lean, with their contracts (part 2); printed by a program of this session. -/
import Derived.Test.YtkcpbehgjbionaaG1
set_option linter.unusedVariables false
set_option linter.unusedSimpArgs false
namespace Go.Proofs.Ytkcpbehgjbionaa.G
open Go Go.RowKit Go.Hw
/-! ### haywain/haywainref13.Right: function 20 -/
def haywainref13_Right.l1 (K : Nat) (a0 : List S85) : Nat → (Bool × Int) → Option Bool
  | 0, _ => none
  | k + 1, s1 => cond (decide (s1.2 < (a0.length : Int))) ((idxO a0 s1.2).bind fun x5_2 => cond s1.1 (cond (decide ((x5_2.f0.size : Int) > 0)) (cond (decide ((x5_2.f0.size : Int) ≤ 16)) (cond (decide ((x5_2.f1.length : Int) ≤ 20000)) (cond (decide (x5_2.f2 ≥ 0)) (cond (decide (x5_2.f2 ≤ (x5_2.f1.length : Int))) (cond (s1.2 == 0) (haywainref13_Right.l1 K a0 k (true, (IntKind.wrap .i64 (s1.2 + 1)))) ((idxO a0 (IntKind.wrap .i64 (s1.2 - 1))).bind fun x6_39 => haywainref13_Right.l1 K a0 k ((Op.bytesLess x6_39.f0.toList x5_2.f0.toList), (IntKind.wrap .i64 (s1.2 + 1))))) (haywainref13_Right.l1 K a0 k (false, (IntKind.wrap .i64 (s1.2 + 1))))) (haywainref13_Right.l1 K a0 k (false, (IntKind.wrap .i64 (s1.2 + 1))))) (haywainref13_Right.l1 K a0 k (false, (IntKind.wrap .i64 (s1.2 + 1))))) (haywainref13_Right.l1 K a0 k (false, (IntKind.wrap .i64 (s1.2 + 1))))) (haywainref13_Right.l1 K a0 k (false, (IntKind.wrap .i64 (s1.2 + 1))))) (haywainref13_Right.l1 K a0 k (false, (IntKind.wrap .i64 (s1.2 + 1))))) (some (s1.1))
def haywainref13_Right.f (K : Nat) (a0 : List S85) : Option Bool := haywainref13_Right.l1 K a0 K ((decide ((a0.length : Int) ≤ 40)), 0)
set_option maxRecDepth 100000 in
set_option maxHeartbeats 1000000 in
theorem haywainref13_Right.con (K : Nat) (a0 : List S85) (h0 : Hd) (r : Bool) (X : Nat → Nat → Prop) (w : World) (hS : St X w [] [] [] [] [Rd kd85 h0.1 h0.2 a0] w) (H : haywainref13_Right.f K a0 = some r) :
    Cn Try.prog 20 [.slice h0.1 a0.length h0.2] X w [] (fun i : Unit => .bool r) (fun i => []) (fun i => []) (fun i => []) := by
 refine Cn.of Try.func20 (by kernel_rfl) hS ?_
 unfold haywainref13_Right.f at H
 refine J.seq (by kernel_rfl) ?_
 refine J.region (by kernel_rfl) ?_
 refine O.pure 1 [] [0] [] (fr' := [(0, .slice h0.1 a0.length h0.2)]) (bx' := []) (by kernel_rfl) ?_
 refine O.nil (by kernel_rfl) ?_
 refine J.seq (by kernel_rfl) ?_
 refine J.region (by kernel_rfl) ?_
 refine O.pure 4 [] [0, 3] [] (fr' := [(0, .slice h0.1 a0.length h0.2), (3, .bool (decide ((a0.length : Int) ≤ 40)))]) (bx' := []) (by kernel_rfl) ?_
 refine O.nil (by kernel_rfl) ?_
 refine J.seq (by kernel_rfl) ?_
 refine J.seq (by kernel_rfl) ?_
 refine J.region (by kernel_rfl) ?_
 refine O.pure 1 [] [0, 3, 4] [] (fr' := [(0, .slice h0.1 a0.length h0.2), (3, .bool (decide ((a0.length : Int) ≤ 40))), (4, .int .i64 0)]) (bx' := []) (by kernel_rfl) ?_
 refine O.nil (by kernel_rfl) ?_
 refine J.block (id := 0) (by kernel_rfl) ?_
 refine J.loopI (σ := Bool × Int) (γ := Unit) (f := fun m_ s_ => haywainref13_Right.l1 K a0 m_ s_) (fun s1 g1 => [(0, .slice h0.1 a0.length h0.2), (3, .bool s1.1), (4, .int .i64 s1.2)]) (fun s1 g1 => St X w [] [] [] [] [Rd kd85 h0.1 h0.2 a0]) K ((decide ((a0.length : Int) ≤ 40)), 0) () (by kernel_rfl) H (fun _ => rfl) (fun m_ s1 H ih1 g1 => ?_) (fun h_ => ?_)
 ·unfold haywainref13_Right.l1 at H
  refine J.seq (by kernel_rfl) ?_
  refine J.seq (by kernel_rfl) ?_
  refine J.region (by kernel_rfl) ?_
  refine O.pure 4 [] [0, 3, 4, 12] [] (fr' := [(0, .slice h0.1 a0.length h0.2), (3, .bool s1.1), (4, .int .i64 s1.2), (12, .bool (decide (s1.2 < (a0.length : Int))))]) (bx' := []) (by kernel_rfl) ?_
  refine O.nil (by kernel_rfl) ?_
  rcases condE H with ⟨hc17, H⟩ | ⟨hc17, H⟩
  ·refine J.condT (x := .tmp 12) (t := (decide (s1.2 < (a0.length : Int)))) (by kernel_rfl) (by kernel_rfl) hc17 ?_
   refine J.skip (by kernel_rfl) ?_
   refine J.seq (by kernel_rfl) ?_
   refine J.block (id := 1) (by kernel_rfl) ?_
   refine J.seq (by kernel_rfl) ?_
   obtain ⟨x5_2, hx5_2, H⟩ := bindE H
   obtain ⟨hx5_2a, hx5_2⟩ := idxE hx5_2
   refine J.region (by kernel_rfl) ?_
   refine O.pure 2 [] [0, 3, 4, 15, 16] [] (fr' := [(0, .slice h0.1 a0.length h0.2), (3, .bool s1.1), (4, .int .i64 s1.2), (15, .slice h0.1 a0.length h0.2), (16, .int .i64 s1.2)]) (bx' := []) (by kernel_rfl) ?_
   refine O.open (d := kd85) (h := h0) (i := s1.2) 0 rfl hx5_2 (op85 _) (fun p5_2 hp5_2A => ?_)
   refine O.q (v := .pointer (some ⟨p5_2.1, p5_2.2.1 + s1.2.toNat * 3, none⟩)) (some 17) (Qu.idx (t := 33) (x := .tmp 15) (y := .tmp 16) (c := h0.2) (kk := .i64) (sz := 3) (by kernel_rfl) (by kernel_rfl) (by kernel_rfl) (by kernel_rfl) hx5_2a (idx_lt hx5_2) hp5_2A) (by kernel_rfl) ?_
   refine O.pure 1 [(0, 0)] [0, 3, 4, 18] [p5_2.1, p5_2.2.1 + s1.2.toNat * 3] (fr' := [(0, .slice h0.1 a0.length h0.2), (3, .bool s1.1), (4, .int .i64 s1.2), (18, .agg #[.string x5_2.f0, .slice p5_2.2.2.1 x5_2.f1.length p5_2.2.2.2, .int .i64 x5_2.f2])]) (bx' := []) (by kernel_rfl) ?_
   refine O.e (some 5) (Ev.alloc (t := 85) (z := .agg #[.string (⟨#[]⟩ : ByteArray), .slice none 0 0, .int .i64 0]) (by kernel_rfl) (by kernel_rfl)) (by kernel_rfl) (fun p5_4 => ?_)
   refine O.pure 1 [(0, 0)] [0, 3, 4, 5] [p5_4, 0] (fr' := [(0, .slice h0.1 a0.length h0.2), (3, .bool s1.1), (4, .int .i64 s1.2), (5, .pointer (some ⟨p5_4, 0, none⟩))]) (bx' := [⟨p5_4, [.string x5_2.f0, .slice p5_2.2.2.1 x5_2.f1.length p5_2.2.2.2, .int .i64 x5_2.f2], 85⟩]) (by kernel_rfl) ?_
   refine O.nil (by kernel_rfl) ?_
   rcases condE H with ⟨hc18, H⟩ | ⟨hc18, H⟩
   ·rcases condE H with ⟨hc19, H⟩ | ⟨hc19, H⟩
    ·rcases condE H with ⟨hc20, H⟩ | ⟨hc20, H⟩
     ·rcases condE H with ⟨hc21, H⟩ | ⟨hc21, H⟩
      ·rcases condE H with ⟨hc22, H⟩ | ⟨hc22, H⟩
       ·rcases condE H with ⟨hc23, H⟩ | ⟨hc23, H⟩
        ·rcases condE H with ⟨hc24, H⟩ | ⟨hc24, H⟩
         ·refine J.drawS (by kernel_rfl) [(1, some 20, .bool true), (2, some 21, .pointer (some ⟨p5_4, 0, none⟩)), (3, some 22, .string x5_2.f0), (4, some 23, .int .i64 (x5_2.f0.size : Int)), (6, some 25, .bool true), (7, some 26, .bool true), (8, some 27, .pointer (some ⟨p5_4, 0, none⟩)), (9, some 28, .string x5_2.f0), (10, some 29, .int .i64 (x5_2.f0.size : Int)), (12, some 31, .bool true), (13, some 32, .bool true), (14, some 33, .pointer (some ⟨p5_4, 1, none⟩)), (15, some 34, .slice p5_2.2.2.1 x5_2.f1.length p5_2.2.2.2), (16, some 35, .int .i64 (x5_2.f1.length : Int)), (18, some 37, .bool true), (19, some 38, .bool true), (20, some 39, .pointer (some ⟨p5_4, 2, none⟩)), (21, some 40, .int .i64 x5_2.f2), (23, some 42, .bool true), (24, some 43, .bool true), (25, some 44, .pointer (some ⟨p5_4, 2, none⟩)), (26, some 45, .int .i64 x5_2.f2), (27, some 46, .pointer (some ⟨p5_4, 1, none⟩)), (28, some 47, .slice p5_2.2.2.1 x5_2.f1.length p5_2.2.2.2), (29, some 48, .int .i64 (x5_2.f1.length : Int)), (31, some 50, .bool true), (32, some 51, .bool true), (33, some 52, .int .i64 s1.2), (35, some 54, .bool true), (36, some 55, undef), (37, some 56, undef), (38, some 57, undef), (39, some 58, undef), (40, some 59, undef), (41, some 60, undef), (42, some 61, undef), (43, some 62, undef), (44, some 63, undef), (45, some 64, .bool true), (46, some 65, .bool true), (47, some 3, .bool true), (0, some 19, .bool true), (5, some 24, .bool true), (11, some 30, .bool true), (17, some 36, .bool true), (22, some 41, .bool true), (30, some 49, .bool true), (34, some 53, .bool true)] ([1, 2, 3, 4, 6, 7, 8, 9, 10, 12, 13, 14, 15, 16, 18, 19, 20, 21, 23, 24, 25, 26, 27, 28, 29, 31, 32, 33, 35, 36, 37, 38, 39, 40, 41, 42, 43, 44, 45, 46, 47] ++ [0, 5, 11, 17, 22, 30, 34]) (by kernel_rfl) ?_
          refine D.fin (fr' := [(0, .slice h0.1 a0.length h0.2), (3, .bool true), (4, .int .i64 s1.2), (21, .pointer (some ⟨p5_4, 0, none⟩)), (22, .string x5_2.f0), (23, .int .i64 (x5_2.f0.size : Int)), (24, .bool true), (27, .pointer (some ⟨p5_4, 0, none⟩)), (28, .string x5_2.f0), (29, .int .i64 (x5_2.f0.size : Int)), (30, .bool true), (33, .pointer (some ⟨p5_4, 1, none⟩)), (34, .slice p5_2.2.2.1 x5_2.f1.length p5_2.2.2.2), (35, .int .i64 (x5_2.f1.length : Int)), (36, .bool true), (39, .pointer (some ⟨p5_4, 2, none⟩)), (40, .int .i64 x5_2.f2), (41, .bool true), (44, .pointer (some ⟨p5_4, 2, none⟩)), (45, .int .i64 x5_2.f2), (46, .pointer (some ⟨p5_4, 1, none⟩)), (47, .slice p5_2.2.2.1 x5_2.f1.length p5_2.2.2.2), (48, .int .i64 (x5_2.f1.length : Int)), (49, .bool true), (52, .int .i64 s1.2), (53, .bool true), (54, .bool true), (55, undef), (56, undef), (57, undef), (58, undef), (59, undef), (60, undef), (61, undef), (62, undef), (63, undef), (64, .bool true)]) [1, 2, 3, 4, 6, 7, 8, 9, 10, 12, 13, 14, 15, 16, 18, 19, 20, 21, 23, 24, 25, 26, 27, 28, 29, 31, 32, 33, 35, 36, 37, 38, 39, 40, 41, 42, 43, 44, 45, 46, 47] [0, 5, 11, 17, 22, 30, 34] [(0, 0), (0, 0), (0, 1), (0, 2), (0, 2), (0, 1)] [p5_4, 0, p5_4, 0, p5_4, 1, p5_4, 2, p5_4, 2, p5_4, 1] [0, 3, 4, 21, 22, 23, 24, 27, 28, 29, 30, 33, 34, 35, 36, 39, 40, 41, 44, 45, 46, 47, 48, 49, 52, 53, 54, 55, 56, 57, 58, 59, 60, 61, 62, 63, 64] (by kernel_rfl) (by kernel_rfl) (⟨QuAt.mk (v := .bool true) (some 19) (by kernel_rfl) (by kernel_rfl) (Qu.eqv (u := .bool s1.1) (v := .bool true) (0, 0) [] (by kernel_rfl) (congrArg Value.bool hc18)), QuAt.mk (v := .bool true) (some 24) (by kernel_rfl) (by kernel_rfl) (Qu.eqv (u := .bool (decide ((x5_2.f0.size : Int) > 0))) (v := .bool true) (0, 0) [] (by kernel_rfl) (congrArg Value.bool hc19)), QuAt.mk (v := .bool true) (some 30) (by kernel_rfl) (by kernel_rfl) (Qu.eqv (u := .bool (decide ((x5_2.f0.size : Int) ≤ 16))) (v := .bool true) (0, 0) [] (by kernel_rfl) (congrArg Value.bool hc20)), QuAt.mk (v := .bool true) (some 36) (by kernel_rfl) (by kernel_rfl) (Qu.eqv (u := .bool (decide ((x5_2.f1.length : Int) ≤ 20000))) (v := .bool true) (0, 0) [] (by kernel_rfl) (congrArg Value.bool hc21)), QuAt.mk (v := .bool true) (some 41) (by kernel_rfl) (by kernel_rfl) (Qu.eqv (u := .bool (decide (x5_2.f2 ≥ 0))) (v := .bool true) (0, 0) [] (by kernel_rfl) (congrArg Value.bool hc22)), QuAt.mk (v := .bool true) (some 49) (by kernel_rfl) (by kernel_rfl) (Qu.eqv (u := .bool (decide (x5_2.f2 ≤ (x5_2.f1.length : Int)))) (v := .bool true) (0, 0) [] (by kernel_rfl) (congrArg Value.bool hc23)), QuAt.mk (v := .bool true) (some 53) (by kernel_rfl) (by kernel_rfl) (Qu.eqv (u := .bool (s1.2 == 0)) (v := .bool true) (0, 0) [] (by kernel_rfl) (congrArg Value.bool hc24)), trivial⟩) (by kernel_rfl) ?_
          refine J.out ?_
          refine J.region (by kernel_rfl) ?_
          refine O.pure 3 [] [0, 3, 4, 21, 22, 23, 24, 27, 28, 29, 30, 33, 34, 35, 36, 39, 40, 41, 44, 45, 46, 47, 48, 49, 52, 53, 54, 55, 56, 57, 58, 59, 60, 61, 62, 63, 64] [] (fr' := [(0, .slice h0.1 a0.length h0.2), (3, .bool true), (4, .int .i64 (IntKind.wrap .i64 (s1.2 + 1))), (21, .pointer (some ⟨p5_4, 0, none⟩)), (22, .string x5_2.f0), (23, .int .i64 (x5_2.f0.size : Int)), (24, .bool true), (27, .pointer (some ⟨p5_4, 0, none⟩)), (28, .string x5_2.f0), (29, .int .i64 (x5_2.f0.size : Int)), (30, .bool true), (33, .pointer (some ⟨p5_4, 1, none⟩)), (34, .slice p5_2.2.2.1 x5_2.f1.length p5_2.2.2.2), (35, .int .i64 (x5_2.f1.length : Int)), (36, .bool true), (39, .pointer (some ⟨p5_4, 2, none⟩)), (40, .int .i64 x5_2.f2), (41, .bool true), (44, .pointer (some ⟨p5_4, 2, none⟩)), (45, .int .i64 x5_2.f2), (46, .pointer (some ⟨p5_4, 1, none⟩)), (47, .slice p5_2.2.2.1 x5_2.f1.length p5_2.2.2.2), (48, .int .i64 (x5_2.f1.length : Int)), (49, .bool true), (52, .int .i64 s1.2), (53, .bool true), (54, .bool true), (55, undef), (56, undef), (57, undef), (58, undef), (59, undef), (60, undef), (61, undef), (62, undef), (63, undef), (64, .bool true)]) (bx' := [⟨p5_4, [.string x5_2.f0, .slice p5_2.2.2.1 x5_2.f1.length p5_2.2.2.2, .int .i64 x5_2.f2], 85⟩]) (by kernel_rfl) ?_
          refine O.nil (by kernel_rfl) ?_
          exact J.conv2 [0, 3, 4] [1] [] [] (by kernel_rfl) (by kernel_rfl) (by kernel_rfl) (by kernel_rfl) (by decide) (ih1 (true, (IntKind.wrap .i64 (s1.2 + 1))) () H)
         ·obtain ⟨x6_39, hx6_39, H⟩ := bindE H
          obtain ⟨hx6_39a, hx6_39⟩ := idxE hx6_39
          refine J.open (d := kd85) (h := h0) (i := (IntKind.wrap .i64 (s1.2 - 1))) 1 rfl hx6_39 (op85 _) (fun p6_39 hp6_39A => ?_)
          refine J.drawS (by kernel_rfl) [(1, some 20, .bool true), (2, some 21, .pointer (some ⟨p5_4, 0, none⟩)), (3, some 22, .string x5_2.f0), (4, some 23, .int .i64 (x5_2.f0.size : Int)), (6, some 25, .bool true), (7, some 26, .bool true), (8, some 27, .pointer (some ⟨p5_4, 0, none⟩)), (9, some 28, .string x5_2.f0), (10, some 29, .int .i64 (x5_2.f0.size : Int)), (12, some 31, .bool true), (13, some 32, .bool true), (14, some 33, .pointer (some ⟨p5_4, 1, none⟩)), (15, some 34, .slice p5_2.2.2.1 x5_2.f1.length p5_2.2.2.2), (16, some 35, .int .i64 (x5_2.f1.length : Int)), (18, some 37, .bool true), (19, some 38, .bool true), (20, some 39, .pointer (some ⟨p5_4, 2, none⟩)), (21, some 40, .int .i64 x5_2.f2), (23, some 42, .bool true), (24, some 43, .bool true), (25, some 44, .pointer (some ⟨p5_4, 2, none⟩)), (26, some 45, .int .i64 x5_2.f2), (27, some 46, .pointer (some ⟨p5_4, 1, none⟩)), (28, some 47, .slice p5_2.2.2.1 x5_2.f1.length p5_2.2.2.2), (29, some 48, .int .i64 (x5_2.f1.length : Int)), (31, some 50, .bool true), (32, some 51, .bool true), (33, some 52, .int .i64 s1.2), (35, some 54, .bool false), (36, some 55, .slice h0.1 a0.length h0.2), (37, some 56, .int .i64 s1.2), (38, some 57, .int .i64 (IntKind.wrap .i64 (s1.2 - 1))), (40, some 59, .pointer (some ⟨p6_39.1, p6_39.2.1 + (IntKind.wrap .i64 (s1.2 - 1)).toNat * 3, none⟩)), (41, some 60, .string x6_39.f0), (42, some 61, .pointer (some ⟨p5_4, 0, none⟩)), (43, some 62, .string x5_2.f0), (44, some 63, .bool (Op.bytesLess x6_39.f0.toList x5_2.f0.toList)), (45, some 64, .bool (Op.bytesLess x6_39.f0.toList x5_2.f0.toList)), (46, some 65, .bool (Op.bytesLess x6_39.f0.toList x5_2.f0.toList)), (47, some 3, .bool (Op.bytesLess x6_39.f0.toList x5_2.f0.toList)), (0, some 19, .bool true), (5, some 24, .bool true), (11, some 30, .bool true), (17, some 36, .bool true), (22, some 41, .bool true), (30, some 49, .bool true), (34, some 53, .bool false), (39, some 58, .pointer (some ⟨p6_39.1, p6_39.2.1 + (IntKind.wrap .i64 (s1.2 - 1)).toNat * 3, none⟩))] ([1, 2, 3, 4, 6, 7, 8, 9, 10, 12, 13, 14, 15, 16, 18, 19, 20, 21, 23, 24, 25, 26, 27, 28, 29, 31, 32, 33, 35, 36, 37, 38, 40, 41, 42, 43, 44, 45, 46, 47] ++ [0, 5, 11, 17, 22, 30, 34, 39]) (by kernel_rfl) ?_
          refine D.fin (fr' := [(0, .slice h0.1 a0.length h0.2), (3, .bool (Op.bytesLess x6_39.f0.toList x5_2.f0.toList)), (4, .int .i64 s1.2), (21, .pointer (some ⟨p5_4, 0, none⟩)), (22, .string x5_2.f0), (23, .int .i64 (x5_2.f0.size : Int)), (24, .bool true), (27, .pointer (some ⟨p5_4, 0, none⟩)), (28, .string x5_2.f0), (29, .int .i64 (x5_2.f0.size : Int)), (30, .bool true), (33, .pointer (some ⟨p5_4, 1, none⟩)), (34, .slice p5_2.2.2.1 x5_2.f1.length p5_2.2.2.2), (35, .int .i64 (x5_2.f1.length : Int)), (36, .bool true), (39, .pointer (some ⟨p5_4, 2, none⟩)), (40, .int .i64 x5_2.f2), (41, .bool true), (44, .pointer (some ⟨p5_4, 2, none⟩)), (45, .int .i64 x5_2.f2), (46, .pointer (some ⟨p5_4, 1, none⟩)), (47, .slice p5_2.2.2.1 x5_2.f1.length p5_2.2.2.2), (48, .int .i64 (x5_2.f1.length : Int)), (49, .bool true), (52, .int .i64 s1.2), (53, .bool false), (54, .bool false), (55, .slice h0.1 a0.length h0.2), (56, .int .i64 s1.2), (57, .int .i64 (IntKind.wrap .i64 (s1.2 - 1))), (58, .pointer (some ⟨p6_39.1, p6_39.2.1 + (IntKind.wrap .i64 (s1.2 - 1)).toNat * 3, none⟩)), (59, .pointer (some ⟨p6_39.1, p6_39.2.1 + (IntKind.wrap .i64 (s1.2 - 1)).toNat * 3, none⟩)), (60, .string x6_39.f0), (61, .pointer (some ⟨p5_4, 0, none⟩)), (62, .string x5_2.f0), (63, .bool (Op.bytesLess x6_39.f0.toList x5_2.f0.toList)), (64, .bool (Op.bytesLess x6_39.f0.toList x5_2.f0.toList))]) [1, 2, 3, 4, 6, 7, 8, 9, 10, 12, 13, 14, 15, 16, 18, 19, 20, 21, 23, 24, 25, 26, 27, 28, 29, 31, 32, 33, 35, 36, 37, 38, 40, 41, 42, 43, 44, 45, 46, 47] [0, 5, 11, 17, 22, 30, 34, 39] [(0, 0), (0, 0), (0, 1), (0, 2), (0, 2), (0, 1), (1, 0), (0, 0)] [p5_4, 0, p5_4, 0, p5_4, 1, p5_4, 2, p5_4, 2, p5_4, 1, p6_39.1, p6_39.2.1 + (IntKind.wrap .i64 (s1.2 - 1)).toNat * 3, p5_4, 0] [0, 3, 4, 21, 22, 23, 24, 27, 28, 29, 30, 33, 34, 35, 36, 39, 40, 41, 44, 45, 46, 47, 48, 49, 52, 53, 54, 55, 56, 57, 58, 59, 60, 61, 62, 63, 64] (by kernel_rfl) (by kernel_rfl) (⟨QuAt.mk (v := .bool true) (some 19) (by kernel_rfl) (by kernel_rfl) (Qu.eqv (u := .bool s1.1) (v := .bool true) (0, 0) [] (by kernel_rfl) (congrArg Value.bool hc18)), QuAt.mk (v := .bool true) (some 24) (by kernel_rfl) (by kernel_rfl) (Qu.eqv (u := .bool (decide ((x5_2.f0.size : Int) > 0))) (v := .bool true) (0, 0) [] (by kernel_rfl) (congrArg Value.bool hc19)), QuAt.mk (v := .bool true) (some 30) (by kernel_rfl) (by kernel_rfl) (Qu.eqv (u := .bool (decide ((x5_2.f0.size : Int) ≤ 16))) (v := .bool true) (0, 0) [] (by kernel_rfl) (congrArg Value.bool hc20)), QuAt.mk (v := .bool true) (some 36) (by kernel_rfl) (by kernel_rfl) (Qu.eqv (u := .bool (decide ((x5_2.f1.length : Int) ≤ 20000))) (v := .bool true) (0, 0) [] (by kernel_rfl) (congrArg Value.bool hc21)), QuAt.mk (v := .bool true) (some 41) (by kernel_rfl) (by kernel_rfl) (Qu.eqv (u := .bool (decide (x5_2.f2 ≥ 0))) (v := .bool true) (0, 0) [] (by kernel_rfl) (congrArg Value.bool hc22)), QuAt.mk (v := .bool true) (some 49) (by kernel_rfl) (by kernel_rfl) (Qu.eqv (u := .bool (decide (x5_2.f2 ≤ (x5_2.f1.length : Int)))) (v := .bool true) (0, 0) [] (by kernel_rfl) (congrArg Value.bool hc23)), QuAt.mk (v := .bool false) (some 53) (by kernel_rfl) (by kernel_rfl) (Qu.eqv (u := .bool (s1.2 == 0)) (v := .bool false) (0, 0) [] (by kernel_rfl) (congrArg Value.bool hc24)), QuAt.mk (v := .pointer (some ⟨p6_39.1, p6_39.2.1 + (IntKind.wrap .i64 (s1.2 - 1)).toNat * 3, none⟩)) (some 58) (by kernel_rfl) (by kernel_rfl) (Qu.idx (t := 33) (x := .tmp 55) (y := .tmp 57) (c := h0.2) (kk := .i64) (sz := 3) (by kernel_rfl) (by kernel_rfl) (by kernel_rfl) (by kernel_rfl) hx6_39a (idx_lt hx6_39) hp6_39A), trivial⟩) (by kernel_rfl) ?_
          refine J.out ?_
          refine J.region (by kernel_rfl) ?_
          refine O.pure 3 [] [0, 3, 4, 21, 22, 23, 24, 27, 28, 29, 30, 33, 34, 35, 36, 39, 40, 41, 44, 45, 46, 47, 48, 49, 52, 53, 54, 55, 56, 57, 58, 59, 60, 61, 62, 63, 64] [] (fr' := [(0, .slice h0.1 a0.length h0.2), (3, .bool (Op.bytesLess x6_39.f0.toList x5_2.f0.toList)), (4, .int .i64 (IntKind.wrap .i64 (s1.2 + 1))), (21, .pointer (some ⟨p5_4, 0, none⟩)), (22, .string x5_2.f0), (23, .int .i64 (x5_2.f0.size : Int)), (24, .bool true), (27, .pointer (some ⟨p5_4, 0, none⟩)), (28, .string x5_2.f0), (29, .int .i64 (x5_2.f0.size : Int)), (30, .bool true), (33, .pointer (some ⟨p5_4, 1, none⟩)), (34, .slice p5_2.2.2.1 x5_2.f1.length p5_2.2.2.2), (35, .int .i64 (x5_2.f1.length : Int)), (36, .bool true), (39, .pointer (some ⟨p5_4, 2, none⟩)), (40, .int .i64 x5_2.f2), (41, .bool true), (44, .pointer (some ⟨p5_4, 2, none⟩)), (45, .int .i64 x5_2.f2), (46, .pointer (some ⟨p5_4, 1, none⟩)), (47, .slice p5_2.2.2.1 x5_2.f1.length p5_2.2.2.2), (48, .int .i64 (x5_2.f1.length : Int)), (49, .bool true), (52, .int .i64 s1.2), (53, .bool false), (54, .bool false), (55, .slice h0.1 a0.length h0.2), (56, .int .i64 s1.2), (57, .int .i64 (IntKind.wrap .i64 (s1.2 - 1))), (58, .pointer (some ⟨p6_39.1, p6_39.2.1 + (IntKind.wrap .i64 (s1.2 - 1)).toNat * 3, none⟩)), (59, .pointer (some ⟨p6_39.1, p6_39.2.1 + (IntKind.wrap .i64 (s1.2 - 1)).toNat * 3, none⟩)), (60, .string x6_39.f0), (61, .pointer (some ⟨p5_4, 0, none⟩)), (62, .string x5_2.f0), (63, .bool (Op.bytesLess x6_39.f0.toList x5_2.f0.toList)), (64, .bool (Op.bytesLess x6_39.f0.toList x5_2.f0.toList))]) (bx' := [⟨p5_4, [.string x5_2.f0, .slice p5_2.2.2.1 x5_2.f1.length p5_2.2.2.2, .int .i64 x5_2.f2], 85⟩]) (by kernel_rfl) ?_
          refine O.nil (by kernel_rfl) ?_
          exact J.conv2 [0, 3, 4] [2] [] [] (by kernel_rfl) (by kernel_rfl) (by kernel_rfl) (by kernel_rfl) (by decide) (ih1 ((Op.bytesLess x6_39.f0.toList x5_2.f0.toList), (IntKind.wrap .i64 (s1.2 + 1))) () H)
        ·refine J.drawS (by kernel_rfl) [(1, some 20, .bool true), (2, some 21, .pointer (some ⟨p5_4, 0, none⟩)), (3, some 22, .string x5_2.f0), (4, some 23, .int .i64 (x5_2.f0.size : Int)), (6, some 25, .bool true), (7, some 26, .bool true), (8, some 27, .pointer (some ⟨p5_4, 0, none⟩)), (9, some 28, .string x5_2.f0), (10, some 29, .int .i64 (x5_2.f0.size : Int)), (12, some 31, .bool true), (13, some 32, .bool true), (14, some 33, .pointer (some ⟨p5_4, 1, none⟩)), (15, some 34, .slice p5_2.2.2.1 x5_2.f1.length p5_2.2.2.2), (16, some 35, .int .i64 (x5_2.f1.length : Int)), (18, some 37, .bool true), (19, some 38, .bool true), (20, some 39, .pointer (some ⟨p5_4, 2, none⟩)), (21, some 40, .int .i64 x5_2.f2), (23, some 42, .bool true), (24, some 43, .bool true), (25, some 44, .pointer (some ⟨p5_4, 2, none⟩)), (26, some 45, .int .i64 x5_2.f2), (27, some 46, .pointer (some ⟨p5_4, 1, none⟩)), (28, some 47, .slice p5_2.2.2.1 x5_2.f1.length p5_2.2.2.2), (29, some 48, .int .i64 (x5_2.f1.length : Int)), (31, some 50, .bool false), (32, some 51, .bool false), (33, some 52, undef), (34, some 53, undef), (35, some 54, undef), (36, some 55, undef), (37, some 56, undef), (38, some 57, undef), (39, some 58, undef), (40, some 59, undef), (41, some 60, undef), (42, some 61, undef), (43, some 62, undef), (44, some 63, undef), (45, some 64, undef), (46, some 65, .bool false), (47, some 3, .bool false), (0, some 19, .bool true), (5, some 24, .bool true), (11, some 30, .bool true), (17, some 36, .bool true), (22, some 41, .bool true), (30, some 49, .bool false)] ([1, 2, 3, 4, 6, 7, 8, 9, 10, 12, 13, 14, 15, 16, 18, 19, 20, 21, 23, 24, 25, 26, 27, 28, 29, 31, 32, 33, 34, 35, 36, 37, 38, 39, 40, 41, 42, 43, 44, 45, 46, 47] ++ [0, 5, 11, 17, 22, 30]) (by kernel_rfl) ?_
         refine D.fin (fr' := [(0, .slice h0.1 a0.length h0.2), (3, .bool false), (4, .int .i64 s1.2), (21, .pointer (some ⟨p5_4, 0, none⟩)), (22, .string x5_2.f0), (23, .int .i64 (x5_2.f0.size : Int)), (24, .bool true), (27, .pointer (some ⟨p5_4, 0, none⟩)), (28, .string x5_2.f0), (29, .int .i64 (x5_2.f0.size : Int)), (30, .bool true), (33, .pointer (some ⟨p5_4, 1, none⟩)), (34, .slice p5_2.2.2.1 x5_2.f1.length p5_2.2.2.2), (35, .int .i64 (x5_2.f1.length : Int)), (36, .bool true), (39, .pointer (some ⟨p5_4, 2, none⟩)), (40, .int .i64 x5_2.f2), (41, .bool true), (44, .pointer (some ⟨p5_4, 2, none⟩)), (45, .int .i64 x5_2.f2), (46, .pointer (some ⟨p5_4, 1, none⟩)), (47, .slice p5_2.2.2.1 x5_2.f1.length p5_2.2.2.2), (48, .int .i64 (x5_2.f1.length : Int)), (49, .bool false), (52, undef), (53, undef), (54, undef), (55, undef), (56, undef), (57, undef), (58, undef), (59, undef), (60, undef), (61, undef), (62, undef), (63, undef), (64, undef)]) [1, 2, 3, 4, 6, 7, 8, 9, 10, 12, 13, 14, 15, 16, 18, 19, 20, 21, 23, 24, 25, 26, 27, 28, 29, 31, 32, 33, 34, 35, 36, 37, 38, 39, 40, 41, 42, 43, 44, 45, 46, 47] [0, 5, 11, 17, 22, 30] [(0, 0), (0, 0), (0, 1), (0, 2), (0, 2), (0, 1)] [p5_4, 0, p5_4, 0, p5_4, 1, p5_4, 2, p5_4, 2, p5_4, 1] [0, 3, 4, 21, 22, 23, 24, 27, 28, 29, 30, 33, 34, 35, 36, 39, 40, 41, 44, 45, 46, 47, 48, 49, 52, 53, 54, 55, 56, 57, 58, 59, 60, 61, 62, 63, 64] (by kernel_rfl) (by kernel_rfl) (⟨QuAt.mk (v := .bool true) (some 19) (by kernel_rfl) (by kernel_rfl) (Qu.eqv (u := .bool s1.1) (v := .bool true) (0, 0) [] (by kernel_rfl) (congrArg Value.bool hc18)), QuAt.mk (v := .bool true) (some 24) (by kernel_rfl) (by kernel_rfl) (Qu.eqv (u := .bool (decide ((x5_2.f0.size : Int) > 0))) (v := .bool true) (0, 0) [] (by kernel_rfl) (congrArg Value.bool hc19)), QuAt.mk (v := .bool true) (some 30) (by kernel_rfl) (by kernel_rfl) (Qu.eqv (u := .bool (decide ((x5_2.f0.size : Int) ≤ 16))) (v := .bool true) (0, 0) [] (by kernel_rfl) (congrArg Value.bool hc20)), QuAt.mk (v := .bool true) (some 36) (by kernel_rfl) (by kernel_rfl) (Qu.eqv (u := .bool (decide ((x5_2.f1.length : Int) ≤ 20000))) (v := .bool true) (0, 0) [] (by kernel_rfl) (congrArg Value.bool hc21)), QuAt.mk (v := .bool true) (some 41) (by kernel_rfl) (by kernel_rfl) (Qu.eqv (u := .bool (decide (x5_2.f2 ≥ 0))) (v := .bool true) (0, 0) [] (by kernel_rfl) (congrArg Value.bool hc22)), QuAt.mk (v := .bool false) (some 49) (by kernel_rfl) (by kernel_rfl) (Qu.eqv (u := .bool (decide (x5_2.f2 ≤ (x5_2.f1.length : Int)))) (v := .bool false) (0, 0) [] (by kernel_rfl) (congrArg Value.bool hc23)), trivial⟩) (by kernel_rfl) ?_
         refine J.out ?_
         refine J.region (by kernel_rfl) ?_
         refine O.pure 3 [] [0, 3, 4, 21, 22, 23, 24, 27, 28, 29, 30, 33, 34, 35, 36, 39, 40, 41, 44, 45, 46, 47, 48, 49, 52, 53, 54, 55, 56, 57, 58, 59, 60, 61, 62, 63, 64] [] (fr' := [(0, .slice h0.1 a0.length h0.2), (3, .bool false), (4, .int .i64 (IntKind.wrap .i64 (s1.2 + 1))), (21, .pointer (some ⟨p5_4, 0, none⟩)), (22, .string x5_2.f0), (23, .int .i64 (x5_2.f0.size : Int)), (24, .bool true), (27, .pointer (some ⟨p5_4, 0, none⟩)), (28, .string x5_2.f0), (29, .int .i64 (x5_2.f0.size : Int)), (30, .bool true), (33, .pointer (some ⟨p5_4, 1, none⟩)), (34, .slice p5_2.2.2.1 x5_2.f1.length p5_2.2.2.2), (35, .int .i64 (x5_2.f1.length : Int)), (36, .bool true), (39, .pointer (some ⟨p5_4, 2, none⟩)), (40, .int .i64 x5_2.f2), (41, .bool true), (44, .pointer (some ⟨p5_4, 2, none⟩)), (45, .int .i64 x5_2.f2), (46, .pointer (some ⟨p5_4, 1, none⟩)), (47, .slice p5_2.2.2.1 x5_2.f1.length p5_2.2.2.2), (48, .int .i64 (x5_2.f1.length : Int)), (49, .bool false), (52, undef), (53, undef), (54, undef), (55, undef), (56, undef), (57, undef), (58, undef), (59, undef), (60, undef), (61, undef), (62, undef), (63, undef), (64, undef)]) (bx' := [⟨p5_4, [.string x5_2.f0, .slice p5_2.2.2.1 x5_2.f1.length p5_2.2.2.2, .int .i64 x5_2.f2], 85⟩]) (by kernel_rfl) ?_
         refine O.nil (by kernel_rfl) ?_
         exact J.conv2 [0, 3, 4] [1] [] [] (by kernel_rfl) (by kernel_rfl) (by kernel_rfl) (by kernel_rfl) (by decide) (ih1 (false, (IntKind.wrap .i64 (s1.2 + 1))) () H)
       ·refine J.drawS (by kernel_rfl) [(1, some 20, .bool true), (2, some 21, .pointer (some ⟨p5_4, 0, none⟩)), (3, some 22, .string x5_2.f0), (4, some 23, .int .i64 (x5_2.f0.size : Int)), (6, some 25, .bool true), (7, some 26, .bool true), (8, some 27, .pointer (some ⟨p5_4, 0, none⟩)), (9, some 28, .string x5_2.f0), (10, some 29, .int .i64 (x5_2.f0.size : Int)), (12, some 31, .bool true), (13, some 32, .bool true), (14, some 33, .pointer (some ⟨p5_4, 1, none⟩)), (15, some 34, .slice p5_2.2.2.1 x5_2.f1.length p5_2.2.2.2), (16, some 35, .int .i64 (x5_2.f1.length : Int)), (18, some 37, .bool true), (19, some 38, .bool true), (20, some 39, .pointer (some ⟨p5_4, 2, none⟩)), (21, some 40, .int .i64 x5_2.f2), (23, some 42, .bool false), (24, some 43, .bool false), (25, some 44, undef), (26, some 45, undef), (27, some 46, undef), (28, some 47, undef), (29, some 48, undef), (30, some 49, undef), (31, some 50, .bool false), (32, some 51, .bool false), (33, some 52, undef), (34, some 53, undef), (35, some 54, undef), (36, some 55, undef), (37, some 56, undef), (38, some 57, undef), (39, some 58, undef), (40, some 59, undef), (41, some 60, undef), (42, some 61, undef), (43, some 62, undef), (44, some 63, undef), (45, some 64, undef), (46, some 65, .bool false), (47, some 3, .bool false), (0, some 19, .bool true), (5, some 24, .bool true), (11, some 30, .bool true), (17, some 36, .bool true), (22, some 41, .bool false)] ([1, 2, 3, 4, 6, 7, 8, 9, 10, 12, 13, 14, 15, 16, 18, 19, 20, 21, 23, 24, 25, 26, 27, 28, 29, 30, 31, 32, 33, 34, 35, 36, 37, 38, 39, 40, 41, 42, 43, 44, 45, 46, 47] ++ [0, 5, 11, 17, 22]) (by kernel_rfl) ?_
        refine D.fin (fr' := [(0, .slice h0.1 a0.length h0.2), (3, .bool false), (4, .int .i64 s1.2), (21, .pointer (some ⟨p5_4, 0, none⟩)), (22, .string x5_2.f0), (23, .int .i64 (x5_2.f0.size : Int)), (24, .bool true), (27, .pointer (some ⟨p5_4, 0, none⟩)), (28, .string x5_2.f0), (29, .int .i64 (x5_2.f0.size : Int)), (30, .bool true), (33, .pointer (some ⟨p5_4, 1, none⟩)), (34, .slice p5_2.2.2.1 x5_2.f1.length p5_2.2.2.2), (35, .int .i64 (x5_2.f1.length : Int)), (36, .bool true), (39, .pointer (some ⟨p5_4, 2, none⟩)), (40, .int .i64 x5_2.f2), (41, .bool false), (44, undef), (45, undef), (46, undef), (47, undef), (48, undef), (49, undef), (52, undef), (53, undef), (54, undef), (55, undef), (56, undef), (57, undef), (58, undef), (59, undef), (60, undef), (61, undef), (62, undef), (63, undef), (64, undef)]) [1, 2, 3, 4, 6, 7, 8, 9, 10, 12, 13, 14, 15, 16, 18, 19, 20, 21, 23, 24, 25, 26, 27, 28, 29, 30, 31, 32, 33, 34, 35, 36, 37, 38, 39, 40, 41, 42, 43, 44, 45, 46, 47] [0, 5, 11, 17, 22] [(0, 0), (0, 0), (0, 1), (0, 2)] [p5_4, 0, p5_4, 0, p5_4, 1, p5_4, 2] [0, 3, 4, 21, 22, 23, 24, 27, 28, 29, 30, 33, 34, 35, 36, 39, 40, 41, 44, 45, 46, 47, 48, 49, 52, 53, 54, 55, 56, 57, 58, 59, 60, 61, 62, 63, 64] (by kernel_rfl) (by kernel_rfl) (⟨QuAt.mk (v := .bool true) (some 19) (by kernel_rfl) (by kernel_rfl) (Qu.eqv (u := .bool s1.1) (v := .bool true) (0, 0) [] (by kernel_rfl) (congrArg Value.bool hc18)), QuAt.mk (v := .bool true) (some 24) (by kernel_rfl) (by kernel_rfl) (Qu.eqv (u := .bool (decide ((x5_2.f0.size : Int) > 0))) (v := .bool true) (0, 0) [] (by kernel_rfl) (congrArg Value.bool hc19)), QuAt.mk (v := .bool true) (some 30) (by kernel_rfl) (by kernel_rfl) (Qu.eqv (u := .bool (decide ((x5_2.f0.size : Int) ≤ 16))) (v := .bool true) (0, 0) [] (by kernel_rfl) (congrArg Value.bool hc20)), QuAt.mk (v := .bool true) (some 36) (by kernel_rfl) (by kernel_rfl) (Qu.eqv (u := .bool (decide ((x5_2.f1.length : Int) ≤ 20000))) (v := .bool true) (0, 0) [] (by kernel_rfl) (congrArg Value.bool hc21)), QuAt.mk (v := .bool false) (some 41) (by kernel_rfl) (by kernel_rfl) (Qu.eqv (u := .bool (decide (x5_2.f2 ≥ 0))) (v := .bool false) (0, 0) [] (by kernel_rfl) (congrArg Value.bool hc22)), trivial⟩) (by kernel_rfl) ?_
        refine J.out ?_
        refine J.region (by kernel_rfl) ?_
        refine O.pure 3 [] [0, 3, 4, 21, 22, 23, 24, 27, 28, 29, 30, 33, 34, 35, 36, 39, 40, 41, 44, 45, 46, 47, 48, 49, 52, 53, 54, 55, 56, 57, 58, 59, 60, 61, 62, 63, 64] [] (fr' := [(0, .slice h0.1 a0.length h0.2), (3, .bool false), (4, .int .i64 (IntKind.wrap .i64 (s1.2 + 1))), (21, .pointer (some ⟨p5_4, 0, none⟩)), (22, .string x5_2.f0), (23, .int .i64 (x5_2.f0.size : Int)), (24, .bool true), (27, .pointer (some ⟨p5_4, 0, none⟩)), (28, .string x5_2.f0), (29, .int .i64 (x5_2.f0.size : Int)), (30, .bool true), (33, .pointer (some ⟨p5_4, 1, none⟩)), (34, .slice p5_2.2.2.1 x5_2.f1.length p5_2.2.2.2), (35, .int .i64 (x5_2.f1.length : Int)), (36, .bool true), (39, .pointer (some ⟨p5_4, 2, none⟩)), (40, .int .i64 x5_2.f2), (41, .bool false), (44, undef), (45, undef), (46, undef), (47, undef), (48, undef), (49, undef), (52, undef), (53, undef), (54, undef), (55, undef), (56, undef), (57, undef), (58, undef), (59, undef), (60, undef), (61, undef), (62, undef), (63, undef), (64, undef)]) (bx' := [⟨p5_4, [.string x5_2.f0, .slice p5_2.2.2.1 x5_2.f1.length p5_2.2.2.2, .int .i64 x5_2.f2], 85⟩]) (by kernel_rfl) ?_
        refine O.nil (by kernel_rfl) ?_
        exact J.conv2 [0, 3, 4] [1] [] [] (by kernel_rfl) (by kernel_rfl) (by kernel_rfl) (by kernel_rfl) (by decide) (ih1 (false, (IntKind.wrap .i64 (s1.2 + 1))) () H)
      ·refine J.drawS (by kernel_rfl) [(1, some 20, .bool true), (2, some 21, .pointer (some ⟨p5_4, 0, none⟩)), (3, some 22, .string x5_2.f0), (4, some 23, .int .i64 (x5_2.f0.size : Int)), (6, some 25, .bool true), (7, some 26, .bool true), (8, some 27, .pointer (some ⟨p5_4, 0, none⟩)), (9, some 28, .string x5_2.f0), (10, some 29, .int .i64 (x5_2.f0.size : Int)), (12, some 31, .bool true), (13, some 32, .bool true), (14, some 33, .pointer (some ⟨p5_4, 1, none⟩)), (15, some 34, .slice p5_2.2.2.1 x5_2.f1.length p5_2.2.2.2), (16, some 35, .int .i64 (x5_2.f1.length : Int)), (18, some 37, .bool false), (19, some 38, .bool false), (20, some 39, undef), (21, some 40, undef), (22, some 41, undef), (23, some 42, .bool false), (24, some 43, .bool false), (25, some 44, undef), (26, some 45, undef), (27, some 46, undef), (28, some 47, undef), (29, some 48, undef), (30, some 49, undef), (31, some 50, .bool false), (32, some 51, .bool false), (33, some 52, undef), (34, some 53, undef), (35, some 54, undef), (36, some 55, undef), (37, some 56, undef), (38, some 57, undef), (39, some 58, undef), (40, some 59, undef), (41, some 60, undef), (42, some 61, undef), (43, some 62, undef), (44, some 63, undef), (45, some 64, undef), (46, some 65, .bool false), (47, some 3, .bool false), (0, some 19, .bool true), (5, some 24, .bool true), (11, some 30, .bool true), (17, some 36, .bool false)] ([1, 2, 3, 4, 6, 7, 8, 9, 10, 12, 13, 14, 15, 16, 18, 19, 20, 21, 22, 23, 24, 25, 26, 27, 28, 29, 30, 31, 32, 33, 34, 35, 36, 37, 38, 39, 40, 41, 42, 43, 44, 45, 46, 47] ++ [0, 5, 11, 17]) (by kernel_rfl) ?_
       refine D.fin (fr' := [(0, .slice h0.1 a0.length h0.2), (3, .bool false), (4, .int .i64 s1.2), (21, .pointer (some ⟨p5_4, 0, none⟩)), (22, .string x5_2.f0), (23, .int .i64 (x5_2.f0.size : Int)), (24, .bool true), (27, .pointer (some ⟨p5_4, 0, none⟩)), (28, .string x5_2.f0), (29, .int .i64 (x5_2.f0.size : Int)), (30, .bool true), (33, .pointer (some ⟨p5_4, 1, none⟩)), (34, .slice p5_2.2.2.1 x5_2.f1.length p5_2.2.2.2), (35, .int .i64 (x5_2.f1.length : Int)), (36, .bool false), (39, undef), (40, undef), (41, undef), (44, undef), (45, undef), (46, undef), (47, undef), (48, undef), (49, undef), (52, undef), (53, undef), (54, undef), (55, undef), (56, undef), (57, undef), (58, undef), (59, undef), (60, undef), (61, undef), (62, undef), (63, undef), (64, undef)]) [1, 2, 3, 4, 6, 7, 8, 9, 10, 12, 13, 14, 15, 16, 18, 19, 20, 21, 22, 23, 24, 25, 26, 27, 28, 29, 30, 31, 32, 33, 34, 35, 36, 37, 38, 39, 40, 41, 42, 43, 44, 45, 46, 47] [0, 5, 11, 17] [(0, 0), (0, 0), (0, 1)] [p5_4, 0, p5_4, 0, p5_4, 1] [0, 3, 4, 21, 22, 23, 24, 27, 28, 29, 30, 33, 34, 35, 36, 39, 40, 41, 44, 45, 46, 47, 48, 49, 52, 53, 54, 55, 56, 57, 58, 59, 60, 61, 62, 63, 64] (by kernel_rfl) (by kernel_rfl) (⟨QuAt.mk (v := .bool true) (some 19) (by kernel_rfl) (by kernel_rfl) (Qu.eqv (u := .bool s1.1) (v := .bool true) (0, 0) [] (by kernel_rfl) (congrArg Value.bool hc18)), QuAt.mk (v := .bool true) (some 24) (by kernel_rfl) (by kernel_rfl) (Qu.eqv (u := .bool (decide ((x5_2.f0.size : Int) > 0))) (v := .bool true) (0, 0) [] (by kernel_rfl) (congrArg Value.bool hc19)), QuAt.mk (v := .bool true) (some 30) (by kernel_rfl) (by kernel_rfl) (Qu.eqv (u := .bool (decide ((x5_2.f0.size : Int) ≤ 16))) (v := .bool true) (0, 0) [] (by kernel_rfl) (congrArg Value.bool hc20)), QuAt.mk (v := .bool false) (some 36) (by kernel_rfl) (by kernel_rfl) (Qu.eqv (u := .bool (decide ((x5_2.f1.length : Int) ≤ 20000))) (v := .bool false) (0, 0) [] (by kernel_rfl) (congrArg Value.bool hc21)), trivial⟩) (by kernel_rfl) ?_
       refine J.out ?_
       refine J.region (by kernel_rfl) ?_
       refine O.pure 3 [] [0, 3, 4, 21, 22, 23, 24, 27, 28, 29, 30, 33, 34, 35, 36, 39, 40, 41, 44, 45, 46, 47, 48, 49, 52, 53, 54, 55, 56, 57, 58, 59, 60, 61, 62, 63, 64] [] (fr' := [(0, .slice h0.1 a0.length h0.2), (3, .bool false), (4, .int .i64 (IntKind.wrap .i64 (s1.2 + 1))), (21, .pointer (some ⟨p5_4, 0, none⟩)), (22, .string x5_2.f0), (23, .int .i64 (x5_2.f0.size : Int)), (24, .bool true), (27, .pointer (some ⟨p5_4, 0, none⟩)), (28, .string x5_2.f0), (29, .int .i64 (x5_2.f0.size : Int)), (30, .bool true), (33, .pointer (some ⟨p5_4, 1, none⟩)), (34, .slice p5_2.2.2.1 x5_2.f1.length p5_2.2.2.2), (35, .int .i64 (x5_2.f1.length : Int)), (36, .bool false), (39, undef), (40, undef), (41, undef), (44, undef), (45, undef), (46, undef), (47, undef), (48, undef), (49, undef), (52, undef), (53, undef), (54, undef), (55, undef), (56, undef), (57, undef), (58, undef), (59, undef), (60, undef), (61, undef), (62, undef), (63, undef), (64, undef)]) (bx' := [⟨p5_4, [.string x5_2.f0, .slice p5_2.2.2.1 x5_2.f1.length p5_2.2.2.2, .int .i64 x5_2.f2], 85⟩]) (by kernel_rfl) ?_
       refine O.nil (by kernel_rfl) ?_
       exact J.conv2 [0, 3, 4] [1] [] [] (by kernel_rfl) (by kernel_rfl) (by kernel_rfl) (by kernel_rfl) (by decide) (ih1 (false, (IntKind.wrap .i64 (s1.2 + 1))) () H)
     ·refine J.drawS (by kernel_rfl) [(1, some 20, .bool true), (2, some 21, .pointer (some ⟨p5_4, 0, none⟩)), (3, some 22, .string x5_2.f0), (4, some 23, .int .i64 (x5_2.f0.size : Int)), (6, some 25, .bool true), (7, some 26, .bool true), (8, some 27, .pointer (some ⟨p5_4, 0, none⟩)), (9, some 28, .string x5_2.f0), (10, some 29, .int .i64 (x5_2.f0.size : Int)), (12, some 31, .bool false), (13, some 32, .bool false), (14, some 33, undef), (15, some 34, undef), (16, some 35, undef), (17, some 36, undef), (18, some 37, .bool false), (19, some 38, .bool false), (20, some 39, undef), (21, some 40, undef), (22, some 41, undef), (23, some 42, .bool false), (24, some 43, .bool false), (25, some 44, undef), (26, some 45, undef), (27, some 46, undef), (28, some 47, undef), (29, some 48, undef), (30, some 49, undef), (31, some 50, .bool false), (32, some 51, .bool false), (33, some 52, undef), (34, some 53, undef), (35, some 54, undef), (36, some 55, undef), (37, some 56, undef), (38, some 57, undef), (39, some 58, undef), (40, some 59, undef), (41, some 60, undef), (42, some 61, undef), (43, some 62, undef), (44, some 63, undef), (45, some 64, undef), (46, some 65, .bool false), (47, some 3, .bool false), (0, some 19, .bool true), (5, some 24, .bool true), (11, some 30, .bool false)] ([1, 2, 3, 4, 6, 7, 8, 9, 10, 12, 13, 14, 15, 16, 17, 18, 19, 20, 21, 22, 23, 24, 25, 26, 27, 28, 29, 30, 31, 32, 33, 34, 35, 36, 37, 38, 39, 40, 41, 42, 43, 44, 45, 46, 47] ++ [0, 5, 11]) (by kernel_rfl) ?_
      refine D.fin (fr' := [(0, .slice h0.1 a0.length h0.2), (3, .bool false), (4, .int .i64 s1.2), (21, .pointer (some ⟨p5_4, 0, none⟩)), (22, .string x5_2.f0), (23, .int .i64 (x5_2.f0.size : Int)), (24, .bool true), (27, .pointer (some ⟨p5_4, 0, none⟩)), (28, .string x5_2.f0), (29, .int .i64 (x5_2.f0.size : Int)), (30, .bool false), (33, undef), (34, undef), (35, undef), (36, undef), (39, undef), (40, undef), (41, undef), (44, undef), (45, undef), (46, undef), (47, undef), (48, undef), (49, undef), (52, undef), (53, undef), (54, undef), (55, undef), (56, undef), (57, undef), (58, undef), (59, undef), (60, undef), (61, undef), (62, undef), (63, undef), (64, undef)]) [1, 2, 3, 4, 6, 7, 8, 9, 10, 12, 13, 14, 15, 16, 17, 18, 19, 20, 21, 22, 23, 24, 25, 26, 27, 28, 29, 30, 31, 32, 33, 34, 35, 36, 37, 38, 39, 40, 41, 42, 43, 44, 45, 46, 47] [0, 5, 11] [(0, 0), (0, 0)] [p5_4, 0, p5_4, 0] [0, 3, 4, 21, 22, 23, 24, 27, 28, 29, 30, 33, 34, 35, 36, 39, 40, 41, 44, 45, 46, 47, 48, 49, 52, 53, 54, 55, 56, 57, 58, 59, 60, 61, 62, 63, 64] (by kernel_rfl) (by kernel_rfl) (⟨QuAt.mk (v := .bool true) (some 19) (by kernel_rfl) (by kernel_rfl) (Qu.eqv (u := .bool s1.1) (v := .bool true) (0, 0) [] (by kernel_rfl) (congrArg Value.bool hc18)), QuAt.mk (v := .bool true) (some 24) (by kernel_rfl) (by kernel_rfl) (Qu.eqv (u := .bool (decide ((x5_2.f0.size : Int) > 0))) (v := .bool true) (0, 0) [] (by kernel_rfl) (congrArg Value.bool hc19)), QuAt.mk (v := .bool false) (some 30) (by kernel_rfl) (by kernel_rfl) (Qu.eqv (u := .bool (decide ((x5_2.f0.size : Int) ≤ 16))) (v := .bool false) (0, 0) [] (by kernel_rfl) (congrArg Value.bool hc20)), trivial⟩) (by kernel_rfl) ?_
      refine J.out ?_
      refine J.region (by kernel_rfl) ?_
      refine O.pure 3 [] [0, 3, 4, 21, 22, 23, 24, 27, 28, 29, 30, 33, 34, 35, 36, 39, 40, 41, 44, 45, 46, 47, 48, 49, 52, 53, 54, 55, 56, 57, 58, 59, 60, 61, 62, 63, 64] [] (fr' := [(0, .slice h0.1 a0.length h0.2), (3, .bool false), (4, .int .i64 (IntKind.wrap .i64 (s1.2 + 1))), (21, .pointer (some ⟨p5_4, 0, none⟩)), (22, .string x5_2.f0), (23, .int .i64 (x5_2.f0.size : Int)), (24, .bool true), (27, .pointer (some ⟨p5_4, 0, none⟩)), (28, .string x5_2.f0), (29, .int .i64 (x5_2.f0.size : Int)), (30, .bool false), (33, undef), (34, undef), (35, undef), (36, undef), (39, undef), (40, undef), (41, undef), (44, undef), (45, undef), (46, undef), (47, undef), (48, undef), (49, undef), (52, undef), (53, undef), (54, undef), (55, undef), (56, undef), (57, undef), (58, undef), (59, undef), (60, undef), (61, undef), (62, undef), (63, undef), (64, undef)]) (bx' := [⟨p5_4, [.string x5_2.f0, .slice p5_2.2.2.1 x5_2.f1.length p5_2.2.2.2, .int .i64 x5_2.f2], 85⟩]) (by kernel_rfl) ?_
      refine O.nil (by kernel_rfl) ?_
      exact J.conv2 [0, 3, 4] [1] [] [] (by kernel_rfl) (by kernel_rfl) (by kernel_rfl) (by kernel_rfl) (by decide) (ih1 (false, (IntKind.wrap .i64 (s1.2 + 1))) () H)
    ·refine J.drawS (by kernel_rfl) [(1, some 20, .bool true), (2, some 21, .pointer (some ⟨p5_4, 0, none⟩)), (3, some 22, .string x5_2.f0), (4, some 23, .int .i64 (x5_2.f0.size : Int)), (6, some 25, .bool false), (7, some 26, .bool false), (8, some 27, undef), (9, some 28, undef), (10, some 29, undef), (11, some 30, undef), (12, some 31, .bool false), (13, some 32, .bool false), (14, some 33, undef), (15, some 34, undef), (16, some 35, undef), (17, some 36, undef), (18, some 37, .bool false), (19, some 38, .bool false), (20, some 39, undef), (21, some 40, undef), (22, some 41, undef), (23, some 42, .bool false), (24, some 43, .bool false), (25, some 44, undef), (26, some 45, undef), (27, some 46, undef), (28, some 47, undef), (29, some 48, undef), (30, some 49, undef), (31, some 50, .bool false), (32, some 51, .bool false), (33, some 52, undef), (34, some 53, undef), (35, some 54, undef), (36, some 55, undef), (37, some 56, undef), (38, some 57, undef), (39, some 58, undef), (40, some 59, undef), (41, some 60, undef), (42, some 61, undef), (43, some 62, undef), (44, some 63, undef), (45, some 64, undef), (46, some 65, .bool false), (47, some 3, .bool false), (0, some 19, .bool true), (5, some 24, .bool false)] ([1, 2, 3, 4, 6, 7, 8, 9, 10, 11, 12, 13, 14, 15, 16, 17, 18, 19, 20, 21, 22, 23, 24, 25, 26, 27, 28, 29, 30, 31, 32, 33, 34, 35, 36, 37, 38, 39, 40, 41, 42, 43, 44, 45, 46, 47] ++ [0, 5]) (by kernel_rfl) ?_
     refine D.fin (fr' := [(0, .slice h0.1 a0.length h0.2), (3, .bool false), (4, .int .i64 s1.2), (21, .pointer (some ⟨p5_4, 0, none⟩)), (22, .string x5_2.f0), (23, .int .i64 (x5_2.f0.size : Int)), (24, .bool false), (27, undef), (28, undef), (29, undef), (30, undef), (33, undef), (34, undef), (35, undef), (36, undef), (39, undef), (40, undef), (41, undef), (44, undef), (45, undef), (46, undef), (47, undef), (48, undef), (49, undef), (52, undef), (53, undef), (54, undef), (55, undef), (56, undef), (57, undef), (58, undef), (59, undef), (60, undef), (61, undef), (62, undef), (63, undef), (64, undef)]) [1, 2, 3, 4, 6, 7, 8, 9, 10, 11, 12, 13, 14, 15, 16, 17, 18, 19, 20, 21, 22, 23, 24, 25, 26, 27, 28, 29, 30, 31, 32, 33, 34, 35, 36, 37, 38, 39, 40, 41, 42, 43, 44, 45, 46, 47] [0, 5] [(0, 0)] [p5_4, 0] [0, 3, 4, 21, 22, 23, 24, 27, 28, 29, 30, 33, 34, 35, 36, 39, 40, 41, 44, 45, 46, 47, 48, 49, 52, 53, 54, 55, 56, 57, 58, 59, 60, 61, 62, 63, 64] (by kernel_rfl) (by kernel_rfl) (⟨QuAt.mk (v := .bool true) (some 19) (by kernel_rfl) (by kernel_rfl) (Qu.eqv (u := .bool s1.1) (v := .bool true) (0, 0) [] (by kernel_rfl) (congrArg Value.bool hc18)), QuAt.mk (v := .bool false) (some 24) (by kernel_rfl) (by kernel_rfl) (Qu.eqv (u := .bool (decide ((x5_2.f0.size : Int) > 0))) (v := .bool false) (0, 0) [] (by kernel_rfl) (congrArg Value.bool hc19)), trivial⟩) (by kernel_rfl) ?_
     refine J.out ?_
     refine J.region (by kernel_rfl) ?_
     refine O.pure 3 [] [0, 3, 4, 21, 22, 23, 24, 27, 28, 29, 30, 33, 34, 35, 36, 39, 40, 41, 44, 45, 46, 47, 48, 49, 52, 53, 54, 55, 56, 57, 58, 59, 60, 61, 62, 63, 64] [] (fr' := [(0, .slice h0.1 a0.length h0.2), (3, .bool false), (4, .int .i64 (IntKind.wrap .i64 (s1.2 + 1))), (21, .pointer (some ⟨p5_4, 0, none⟩)), (22, .string x5_2.f0), (23, .int .i64 (x5_2.f0.size : Int)), (24, .bool false), (27, undef), (28, undef), (29, undef), (30, undef), (33, undef), (34, undef), (35, undef), (36, undef), (39, undef), (40, undef), (41, undef), (44, undef), (45, undef), (46, undef), (47, undef), (48, undef), (49, undef), (52, undef), (53, undef), (54, undef), (55, undef), (56, undef), (57, undef), (58, undef), (59, undef), (60, undef), (61, undef), (62, undef), (63, undef), (64, undef)]) (bx' := [⟨p5_4, [.string x5_2.f0, .slice p5_2.2.2.1 x5_2.f1.length p5_2.2.2.2, .int .i64 x5_2.f2], 85⟩]) (by kernel_rfl) ?_
     refine O.nil (by kernel_rfl) ?_
     exact J.conv2 [0, 3, 4] [1] [] [] (by kernel_rfl) (by kernel_rfl) (by kernel_rfl) (by kernel_rfl) (by decide) (ih1 (false, (IntKind.wrap .i64 (s1.2 + 1))) () H)
   ·refine J.drawS (by kernel_rfl) [(1, some 20, .bool false), (2, some 21, undef), (3, some 22, undef), (4, some 23, undef), (5, some 24, undef), (6, some 25, .bool false), (7, some 26, .bool false), (8, some 27, undef), (9, some 28, undef), (10, some 29, undef), (11, some 30, undef), (12, some 31, .bool false), (13, some 32, .bool false), (14, some 33, undef), (15, some 34, undef), (16, some 35, undef), (17, some 36, undef), (18, some 37, .bool false), (19, some 38, .bool false), (20, some 39, undef), (21, some 40, undef), (22, some 41, undef), (23, some 42, .bool false), (24, some 43, .bool false), (25, some 44, undef), (26, some 45, undef), (27, some 46, undef), (28, some 47, undef), (29, some 48, undef), (30, some 49, undef), (31, some 50, .bool false), (32, some 51, .bool false), (33, some 52, undef), (34, some 53, undef), (35, some 54, undef), (36, some 55, undef), (37, some 56, undef), (38, some 57, undef), (39, some 58, undef), (40, some 59, undef), (41, some 60, undef), (42, some 61, undef), (43, some 62, undef), (44, some 63, undef), (45, some 64, undef), (46, some 65, .bool false), (47, some 3, .bool false), (0, some 19, .bool false)] ([1, 2, 3, 4, 5, 6, 7, 8, 9, 10, 11, 12, 13, 14, 15, 16, 17, 18, 19, 20, 21, 22, 23, 24, 25, 26, 27, 28, 29, 30, 31, 32, 33, 34, 35, 36, 37, 38, 39, 40, 41, 42, 43, 44, 45, 46, 47] ++ [0]) (by kernel_rfl) ?_
    refine D.fin (fr' := [(0, .slice h0.1 a0.length h0.2), (3, .bool false), (4, .int .i64 s1.2), (21, undef), (22, undef), (23, undef), (24, undef), (27, undef), (28, undef), (29, undef), (30, undef), (33, undef), (34, undef), (35, undef), (36, undef), (39, undef), (40, undef), (41, undef), (44, undef), (45, undef), (46, undef), (47, undef), (48, undef), (49, undef), (52, undef), (53, undef), (54, undef), (55, undef), (56, undef), (57, undef), (58, undef), (59, undef), (60, undef), (61, undef), (62, undef), (63, undef), (64, undef)]) [1, 2, 3, 4, 5, 6, 7, 8, 9, 10, 11, 12, 13, 14, 15, 16, 17, 18, 19, 20, 21, 22, 23, 24, 25, 26, 27, 28, 29, 30, 31, 32, 33, 34, 35, 36, 37, 38, 39, 40, 41, 42, 43, 44, 45, 46, 47] [0] [] [] [0, 3, 4, 21, 22, 23, 24, 27, 28, 29, 30, 33, 34, 35, 36, 39, 40, 41, 44, 45, 46, 47, 48, 49, 52, 53, 54, 55, 56, 57, 58, 59, 60, 61, 62, 63, 64] (by kernel_rfl) (by kernel_rfl) (⟨QuAt.mk (v := .bool false) (some 19) (by kernel_rfl) (by kernel_rfl) (Qu.eqv (u := .bool s1.1) (v := .bool false) (0, 0) [] (by kernel_rfl) (congrArg Value.bool hc18)), trivial⟩) (by kernel_rfl) ?_
    refine J.out ?_
    refine J.region (by kernel_rfl) ?_
    refine O.pure 3 [] [0, 3, 4, 21, 22, 23, 24, 27, 28, 29, 30, 33, 34, 35, 36, 39, 40, 41, 44, 45, 46, 47, 48, 49, 52, 53, 54, 55, 56, 57, 58, 59, 60, 61, 62, 63, 64] [] (fr' := [(0, .slice h0.1 a0.length h0.2), (3, .bool false), (4, .int .i64 (IntKind.wrap .i64 (s1.2 + 1))), (21, undef), (22, undef), (23, undef), (24, undef), (27, undef), (28, undef), (29, undef), (30, undef), (33, undef), (34, undef), (35, undef), (36, undef), (39, undef), (40, undef), (41, undef), (44, undef), (45, undef), (46, undef), (47, undef), (48, undef), (49, undef), (52, undef), (53, undef), (54, undef), (55, undef), (56, undef), (57, undef), (58, undef), (59, undef), (60, undef), (61, undef), (62, undef), (63, undef), (64, undef)]) (bx' := [⟨p5_4, [.string x5_2.f0, .slice p5_2.2.2.1 x5_2.f1.length p5_2.2.2.2, .int .i64 x5_2.f2], 85⟩]) (by kernel_rfl) ?_
    refine O.nil (by kernel_rfl) ?_
    exact J.conv2 [0, 3, 4] [1] [] [] (by kernel_rfl) (by kernel_rfl) (by kernel_rfl) (by kernel_rfl) (by decide) (ih1 (false, (IntKind.wrap .i64 (s1.2 + 1))) () H)
  ·refine J.condF (x := .tmp 12) (t := (decide (s1.2 < (a0.length : Int)))) (by kernel_rfl) (by kernel_rfl) hc17 ?_
   refine J.exit (id := 0) (by kernel_rfl) rfl ?_
   refine J.seq (by kernel_rfl) ?_
   refine J.region (by kernel_rfl) ?_
   refine O.pure 2 [] [2] [] (fr' := [(2, .bool s1.1)]) (bx' := []) (by kernel_rfl) ?_
   refine O.nil (by kernel_rfl) ?_
   obtain rfl := Option.some.inj H
   exact J.doneS [] [] [] [] [] () (vs := [.bool s1.1]) (by kernel_rfl) (by kernel_rfl) (by kernel_rfl) (by kernel_rfl) (by kernel_rfl) (by decide)
 ·exact J.conv2 [0, 3, 4] [0] [] [] (by kernel_rfl) (by kernel_rfl) (by kernel_rfl) (by kernel_rfl) (by decide) h_
/-! ### haywain/haywainref13.Good: function 33 -/
def haywainref13_Good.f (K : Nat) (a0 : List S85) : Option (List S85) := (haywainref13_Right.f K a0).bind fun x1_1 => cond x1_1 (some (a0)) (some (([] : List S85)))
set_option maxRecDepth 100000 in
set_option maxHeartbeats 1000000 in
theorem haywainref13_Good.con (K : Nat) (a0 : List S85) (h0 : Hd) (r : (List S85)) (X : Nat → Nat → Prop) (w : World) (hS : St X w [] [] [] [] [Rd kd85 h0.1 h0.2 a0] w) (H : haywainref13_Good.f K a0 = some r) :
    Cn Try.prog 33 [.slice h0.1 a0.length h0.2] X w [] (fun i : Hd => .slice i.1 r.length i.2) (fun i => []) (fun i => []) (fun i => [Rd kd85 i.1 i.2 r]) := by
 refine Cn.of Try.func33 (by kernel_rfl) hS ?_
 unfold haywainref13_Good.f at H
 refine J.seq (by kernel_rfl) ?_
 refine J.region (by kernel_rfl) ?_
 refine O.pure 1 [] [0] [] (fr' := [(0, .slice h0.1 a0.length h0.2)]) (bx' := []) (by kernel_rfl) ?_
 refine O.nil (by kernel_rfl) ?_
 refine J.seq (by kernel_rfl) ?_
 refine J.seq (by kernel_rfl) ?_
 obtain ⟨x1_1, hx1_1, H⟩ := bindE H
 refine J.region (by kernel_rfl) ?_
 refine O.pure 1 [] [0, 3] [] (fr' := [(0, .slice h0.1 a0.length h0.2), (3, .slice h0.1 a0.length h0.2)]) (bx' := []) (by kernel_rfl) ?_
 refine O.e (some 4) (Ev.call0 (xs := [.tmp 3]) [0] (by kernel_rfl) (by kernel_rfl) (fun w hS => haywainref13_Right.con K a0 h0  _ _ w hS hx1_1)) (by kernel_rfl) (fun _ => ?_)
 refine O.nil (by kernel_rfl) ?_
 rcases condE H with ⟨hc1, H⟩ | ⟨hc1, H⟩
 ·refine J.condT (x := .tmp 4) (t := x1_1) (by kernel_rfl) (by kernel_rfl) hc1 ?_
  refine J.seq (by kernel_rfl) ?_
  refine J.region (by kernel_rfl) ?_
  refine O.pure 2 [] [2] [] (fr' := [(2, .slice h0.1 a0.length h0.2)]) (bx' := []) (by kernel_rfl) ?_
  refine O.nil (by kernel_rfl) ?_
  obtain rfl := Option.some.inj H
  exact J.doneS [] [] [0] [] [] h0 (vs := [.slice h0.1 a0.length h0.2]) (by kernel_rfl) (by kernel_rfl) (by kernel_rfl) (by kernel_rfl) (by kernel_rfl) (by decide)
 ·refine J.condF (x := .tmp 4) (t := x1_1) (by kernel_rfl) (by kernel_rfl) hc1 ?_
  refine J.skip (by kernel_rfl) ?_
  refine J.seq (by kernel_rfl) ?_
  refine J.region (by kernel_rfl) ?_
  refine O.pure 1 [] [2] [] (fr' := [(2, .slice none 0 0)]) (bx' := []) (by kernel_rfl) ?_
  refine O.nil (by kernel_rfl) ?_
  obtain rfl := Option.some.inj H
  refine J.nilF kd85 ?_
  exact J.doneS [] [] [0] [] [] (none, 0) (vs := [.slice none 0 0]) (by kernel_rfl) (by kernel_rfl) (by kernel_rfl) (by kernel_rfl) (by kernel_rfl) (by decide)
/-! ### haywain/haywainref13.Get: function 36 -/
def haywainref13_Get.l1 (K : Nat) (a0 : List S85) (a1 : ByteArray) : Nat → Int → Option (List Int)
  | 0, _ => none
  | k + 1, s1 => cond (decide (s1 < (a0.length : Int))) ((idxO a0 s1).bind fun x4_2 => cond (x4_2.f0.toList == a1.toList) ((idxO a0 s1).bind fun x5_2 => some (x5_2.f1)) (haywainref13_Get.l1 K a0 a1 k (IntKind.wrap .i64 (s1 + 1)))) (some (([] : List Int)))
def haywainref13_Get.f (K : Nat) (a0 : List S85) (a1 : ByteArray) : Option (List Int) := haywainref13_Get.l1 K a0 a1 K 0
set_option maxRecDepth 100000 in
set_option maxHeartbeats 1000000 in
theorem haywainref13_Get.con (K : Nat) (a0 : List S85) (a1 : ByteArray) (h0 : Hd) (r : (List Int)) (X : Nat → Nat → Prop) (w : World) (hS : St X w [] [] [] [] [Rd kd85 h0.1 h0.2 a0] w) (H : haywainref13_Get.f K a0 a1 = some r) :
    Cn Try.prog 36 [.slice h0.1 a0.length h0.2, .string a1] X w [] (fun i : Hd => .slice i.1 r.length i.2) (fun i => []) (fun i => []) (fun i => [Rd (Kd.int .u8) i.1 i.2 r]) := by
 refine Cn.of Try.func36 (by kernel_rfl) hS ?_
 unfold haywainref13_Get.f at H
 refine J.seq (by kernel_rfl) ?_
 refine J.region (by kernel_rfl) ?_
 refine O.pure 1 [] [0, 1] [] (fr' := [(0, .slice h0.1 a0.length h0.2), (1, .string a1)]) (bx' := []) (by kernel_rfl) ?_
 refine O.nil (by kernel_rfl) ?_
 refine J.seq (by kernel_rfl) ?_
 refine J.seq (by kernel_rfl) ?_
 refine J.region (by kernel_rfl) ?_
 refine O.pure 1 [] [0, 1, 5] [] (fr' := [(0, .slice h0.1 a0.length h0.2), (1, .string a1), (5, .int .i64 0)]) (bx' := []) (by kernel_rfl) ?_
 refine O.nil (by kernel_rfl) ?_
 refine J.block (id := 0) (by kernel_rfl) ?_
 refine J.loopI (σ := Int) (γ := Unit) (f := fun m_ s_ => haywainref13_Get.l1 K a0 a1 m_ s_) (fun s1 g1 => [(0, .slice h0.1 a0.length h0.2), (1, .string a1), (5, .int .i64 s1)]) (fun s1 g1 => St X w [] [] [] [] [Rd kd85 h0.1 h0.2 a0]) K 0 () (by kernel_rfl) H (fun _ => rfl) (fun m_ s1 H ih1 g1 => ?_) (fun h_ => ?_)
 ·unfold haywainref13_Get.l1 at H
  refine J.seq (by kernel_rfl) ?_
  refine J.seq (by kernel_rfl) ?_
  refine J.region (by kernel_rfl) ?_
  refine O.pure 4 [] [0, 1, 5, 9] [] (fr' := [(0, .slice h0.1 a0.length h0.2), (1, .string a1), (5, .int .i64 s1), (9, .bool (decide (s1 < (a0.length : Int))))]) (bx' := []) (by kernel_rfl) ?_
  refine O.nil (by kernel_rfl) ?_
  rcases condE H with ⟨hc6, H⟩ | ⟨hc6, H⟩
  ·refine J.condT (x := .tmp 9) (t := (decide (s1 < (a0.length : Int)))) (by kernel_rfl) (by kernel_rfl) hc6 ?_
   refine J.skip (by kernel_rfl) ?_
   refine J.seq (by kernel_rfl) ?_
   refine J.block (id := 1) (by kernel_rfl) ?_
   refine J.seq (by kernel_rfl) ?_
   obtain ⟨x4_2, hx4_2, H⟩ := bindE H
   obtain ⟨hx4_2a, hx4_2⟩ := idxE hx4_2
   refine J.region (by kernel_rfl) ?_
   refine O.pure 2 [] [0, 1, 5, 12, 13] [] (fr' := [(0, .slice h0.1 a0.length h0.2), (1, .string a1), (5, .int .i64 s1), (12, .slice h0.1 a0.length h0.2), (13, .int .i64 s1)]) (bx' := []) (by kernel_rfl) ?_
   refine O.open (d := kd85) (h := h0) (i := s1) 0 rfl hx4_2 (op85 _) (fun p4_2 hp4_2A => ?_)
   refine O.q (v := .pointer (some ⟨p4_2.1, p4_2.2.1 + s1.toNat * 3, none⟩)) (some 14) (Qu.idx (t := 33) (x := .tmp 12) (y := .tmp 13) (c := h0.2) (kk := .i64) (sz := 3) (by kernel_rfl) (by kernel_rfl) (by kernel_rfl) (by kernel_rfl) hx4_2a (idx_lt hx4_2) hp4_2A) (by kernel_rfl) ?_
   refine O.pure 4 [(0, 0)] [0, 1, 5, 18] [p4_2.1, p4_2.2.1 + s1.toNat * 3] (fr' := [(0, .slice h0.1 a0.length h0.2), (1, .string a1), (5, .int .i64 s1), (18, .bool (x4_2.f0.toList == a1.toList))]) (bx' := []) (by kernel_rfl) ?_
   refine O.nil (by kernel_rfl) ?_
   rcases condE H with ⟨hc7, H⟩ | ⟨hc7, H⟩
   ·refine J.condT (x := .tmp 18) (t := (x4_2.f0.toList == a1.toList)) (by kernel_rfl) (by kernel_rfl) hc7 ?_
    refine J.seq (by kernel_rfl) ?_
    obtain ⟨x5_2, hx5_2, H⟩ := bindE H
    obtain ⟨hx5_2a, hx5_2⟩ := idxE hx5_2
    refine J.region (by kernel_rfl) ?_
    refine O.pure 2 [] [19, 20] [] (fr' := [(19, .slice h0.1 a0.length h0.2), (20, .int .i64 s1)]) (bx' := []) (by kernel_rfl) ?_
    refine O.open (d := kd85) (h := h0) (i := s1) 1 rfl hx5_2 (op85 _) (fun p5_2 hp5_2A => ?_)
    refine O.q (v := .pointer (some ⟨p5_2.1, p5_2.2.1 + s1.toNat * 3, none⟩)) (some 21) (Qu.idx (t := 33) (x := .tmp 19) (y := .tmp 20) (c := h0.2) (kk := .i64) (sz := 3) (by kernel_rfl) (by kernel_rfl) (by kernel_rfl) (by kernel_rfl) hx5_2a (idx_lt hx5_2) hp5_2A) (by kernel_rfl) ?_
    refine O.pure 3 [(0, 1)] [4] [p5_2.1, p5_2.2.1 + s1.toNat * 3 + 1] (fr' := [(4, .slice p5_2.2.2.1 x5_2.f1.length p5_2.2.2.2)]) (bx' := []) (by kernel_rfl) ?_
    refine O.nil (by kernel_rfl) ?_
    obtain rfl := Option.some.inj H
    exact J.doneS [] [] [0] [] [] p5_2.2.2 (vs := [.slice p5_2.2.2.1 x5_2.f1.length p5_2.2.2.2]) (by kernel_rfl) (by kernel_rfl) (by kernel_rfl) (by kernel_rfl) (by kernel_rfl) (by decide)
   ·refine J.condF (x := .tmp 18) (t := (x4_2.f0.toList == a1.toList)) (by kernel_rfl) (by kernel_rfl) hc7 ?_
    refine J.skip (by kernel_rfl) ?_
    refine J.out ?_
    refine J.region (by kernel_rfl) ?_
    refine O.pure 3 [] [0, 1, 5] [] (fr' := [(0, .slice h0.1 a0.length h0.2), (1, .string a1), (5, .int .i64 (IntKind.wrap .i64 (s1 + 1)))]) (bx' := []) (by kernel_rfl) ?_
    refine O.nil (by kernel_rfl) ?_
    exact J.conv2 [0, 1, 5] [1] [] [] (by kernel_rfl) (by kernel_rfl) (by kernel_rfl) (by kernel_rfl) (by decide) (ih1 (IntKind.wrap .i64 (s1 + 1)) () H)
  ·refine J.condF (x := .tmp 9) (t := (decide (s1 < (a0.length : Int)))) (by kernel_rfl) (by kernel_rfl) hc6 ?_
   refine J.exit (id := 0) (by kernel_rfl) rfl ?_
   refine J.seq (by kernel_rfl) ?_
   refine J.region (by kernel_rfl) ?_
   refine O.pure 1 [] [4] [] (fr' := [(4, .slice none 0 0)]) (bx' := []) (by kernel_rfl) ?_
   refine O.nil (by kernel_rfl) ?_
   obtain rfl := Option.some.inj H
   refine J.nilF (Kd.int .u8) ?_
   exact J.doneS [] [] [0] [] [] (none, 0) (vs := [.slice none 0 0]) (by kernel_rfl) (by kernel_rfl) (by kernel_rfl) (by kernel_rfl) (by kernel_rfl) (by decide)
 ·exact J.conv2 [0, 1, 5] [0] [] [] (by kernel_rfl) (by kernel_rfl) (by kernel_rfl) (by kernel_rfl) (by decide) h_
/-! ### haywain/haywainref02.Digits: function 64 -/
def haywainref02_Digits.r (K : Nat) : Nat → Int → Int → Option (List Int)
  | 0, _, _ => none
  | k + 1, a0, a1 => cond (a1 == 0) (some (([] : List Int))) ((divO .u64 a0 256).bind fun z3_1 => (haywainref02_Digits.r K k (IntKind.wrap .u64 (a0.tdiv 256)) (IntKind.wrap .i64 (a1 - 1))).bind fun x3_4 => (remO a0 256).bind fun z3_6 => (appO 1 x3_4 ([(IntKind.wrap .u8 (a0.tmod 256))] : List Int)).bind fun y3_9 => some ((x3_4 ++ ([(IntKind.wrap .u8 (a0.tmod 256))] : List Int))))
def haywainref02_Digits.f (K : Nat) (a0 : Int) (a1 : Int) : Option (List Int) := haywainref02_Digits.r K K a0 a1
set_option maxRecDepth 100000 in
set_option maxHeartbeats 1000000 in
theorem haywainref02_Digits.con_r (K : Nat) : ∀ (k : Nat) (a0 : Int) (a1 : Int) (r : (List Int)) (X : Nat → Nat → Prop) (w : World) (hS : St X w [] [] [] [] [] w) (H : haywainref02_Digits.r K k a0 a1 = some r), Cn Try.prog 64 [.int .u64 a0, .int .i64 a1] X w [] (fun i : Hd => .slice i.1 r.length i.2) (fun i => []) (fun i => [mkRow (Kd.int .u8) 5 (.slice i.1 r.length i.2) r]) (fun i => []) := by
  intro k
  induction k with
  | zero => intro a0 a1 r X w hS H; simp [haywainref02_Digits.r] at H
  | succ k ih =>
    intro a0 a1 r X w hS H
    refine Cn.of Try.func64 (by kernel_rfl) hS ?_
    unfold haywainref02_Digits.r at H
    refine J.seq (by kernel_rfl) ?_
    refine J.region (by kernel_rfl) ?_
    refine O.pure 1 [] [0, 1] [] (fr' := [(0, .int .u64 a0), (1, .int .i64 a1)]) (bx' := []) (by kernel_rfl) ?_
    refine O.nil (by kernel_rfl) ?_
    refine J.seq (by kernel_rfl) ?_
    refine J.seq (by kernel_rfl) ?_
    refine J.region (by kernel_rfl) ?_
    refine O.pure 2 [] [0, 1, 6] [] (fr' := [(0, .int .u64 a0), (1, .int .i64 a1), (6, .bool (a1 == 0))]) (bx' := []) (by kernel_rfl) ?_
    refine O.nil (by kernel_rfl) ?_
    rcases condE H with ⟨hc1, H⟩ | ⟨hc1, H⟩
    ·refine J.condT (x := .tmp 6) (t := (a1 == 0)) (by kernel_rfl) (by kernel_rfl) hc1 ?_
     refine J.seq (by kernel_rfl) ?_
     refine J.region (by kernel_rfl) ?_
     refine O.pure 1 [] [4] [] (fr' := [(4, .slice none 0 0)]) (bx' := []) (by kernel_rfl) ?_
     refine O.nil (by kernel_rfl) ?_
     obtain rfl := Option.some.inj H
     refine J.nilrow (Kd.int .u8) 5 ?_
     exact J.doneS [] [] [] [] [0] (none, 0) (vs := [.slice none 0 0]) (by kernel_rfl) (by kernel_rfl) (by kernel_rfl) (by kernel_rfl) (by kernel_rfl) (by decide)
    ·refine J.condF (x := .tmp 6) (t := (a1 == 0)) (by kernel_rfl) (by kernel_rfl) hc1 ?_
     refine J.skip (by kernel_rfl) ?_
     refine J.seq (by kernel_rfl) ?_
     obtain ⟨z3_1, hz3_1, H⟩ := bindE H
     have hz3_1a := (divE hz3_1).1
     obtain ⟨x3_4, hx3_4, H⟩ := bindE H
     obtain ⟨z3_6, hz3_6, H⟩ := bindE H
     have hz3_6a := (remE hz3_6).1
     obtain ⟨y3_9, hy3_9, H⟩ := bindE H
     have hy3_9a := (appE hy3_9).1
     refine J.region (by kernel_rfl) ?_
     refine O.pure 1 [] [0, 1, 7] [] (fr' := [(0, .int .u64 a0), (1, .int .i64 a1), (7, .int .u64 a0)]) (bx' := []) (by kernel_rfl) ?_
     refine O.q (v := .int .u64 (IntKind.wrap .u64 (a0.tdiv 256))) (some 8) (Qu.div (t := 105) (t' := 105) (x := .tmp 7) (y := .const (.int .u64 256)) (a := a0) (b := 256) (by kernel_rfl) (by kernel_rfl) (by kernel_rfl) hz3_1a) (by kernel_rfl) ?_
     refine O.pure 2 [] [0, 8, 10] [] (fr' := [(0, .int .u64 a0), (8, .int .u64 (IntKind.wrap .u64 (a0.tdiv 256))), (10, .int .i64 (IntKind.wrap .i64 (a1 - 1)))]) (bx' := []) (by kernel_rfl) ?_
     refine O.e (some 11) (Ev.call0 (xs := [.tmp 8, .tmp 10]) [] (by kernel_rfl) (by kernel_rfl) (fun w hS => ih (IntKind.wrap .u64 (a0.tdiv 256)) (IntKind.wrap .i64 (a1 - 1))  _ _ w hS hx3_4)) (by kernel_rfl) (fun p3_4 => ?_)
     refine O.pure 1 [] [11, 12] [] (fr' := [(11, .slice p3_4.1 x3_4.length p3_4.2), (12, .int .u64 a0)]) (bx' := []) (by kernel_rfl) ?_
     refine O.q (v := .int .u64 (a0.tmod 256)) (some 13) (Qu.rem (t := 105) (t' := 105) (x := .tmp 12) (y := .const (.int .u64 256)) (a := a0) (b := 256) (by kernel_rfl) (by kernel_rfl) (by kernel_rfl) hz3_6a) (by kernel_rfl) ?_
     refine O.pure 1 [] [11, 14] [] (fr' := [(11, .slice p3_4.1 x3_4.length p3_4.2), (14, .int .u8 (IntKind.wrap .u8 (a0.tmod 256)))]) (bx' := []) (by kernel_rfl) ?_
     refine O.e (some 15) (Ev.lit (t := 27) (len := 1) (parts := #[(0, .tmp 14)]) (ps := [(0, .int .u8 (IntKind.wrap .u8 (a0.tmod 256)))]) (cs := [.int .u8 (IntKind.wrap .u8 (a0.tmod 256))]) (e := 5) (Kd.int .u8) ([(IntKind.wrap .u8 (a0.tmod 256))] : List Int) (by kernel_rfl) (by kernel_rfl) (by kernel_rfl) (by kernel_rfl) (by kernel_rfl) (by decide) (fun w' hφ => (Els.cons (c := [.int .u8 (IntKind.wrap .u8 (a0.tmod 256))]) (rfl) (Els.nil _ _ _)))) (by kernel_rfl) (fun p3_8 => ?_)
     refine O.e (some 16) (Ev.appLit (x := .tmp 11) (y := .tmp 15) (t := 27) (bytes := 1) (by kernel_rfl) (by kernel_rfl) (by kernel_rfl) (by kernel_rfl) (by kernel_rfl) (by decide) hy3_9a) (by kernel_rfl) (fun p3_9 => ?_)
     refine O.pure 1 [] [4] [] (fr' := [(4, .slice p3_9.1 (x3_4 ++ ([(IntKind.wrap .u8 (a0.tmod 256))] : List Int)).length p3_9.2)]) (bx' := []) (by kernel_rfl) ?_
     refine O.nil (by kernel_rfl) ?_
     obtain rfl := Option.some.inj H
     exact J.doneS [] [] [] [] [0] p3_9 (vs := [.slice p3_9.1 (x3_4 ++ ([(IntKind.wrap .u8 (a0.tmod 256))] : List Int)).length p3_9.2]) (by kernel_rfl) (by kernel_rfl) (by kernel_rfl) (by kernel_rfl) (by kernel_rfl) (by decide)
theorem haywainref02_Digits.con (K : Nat) (a0 : Int) (a1 : Int) (r : (List Int)) (X : Nat → Nat → Prop) (w : World) (hS : St X w [] [] [] [] [] w) (H : haywainref02_Digits.f K a0 a1 = some r) : Cn Try.prog 64 [.int .u64 a0, .int .i64 a1] X w [] (fun i : Hd => .slice i.1 r.length i.2) (fun i => []) (fun i => [mkRow (Kd.int .u8) 5 (.slice i.1 r.length i.2) r]) (fun i => []) := haywainref02_Digits.con_r K K a0 a1 r X w hS H
/-! ### haywain/haywainref02.Sum: function 65 -/
def haywainref02_Sum.l80 (K : Nat) : Nat → (Int × Int) → Option Int
  | 0, _ => none
  | k + 1, s80 => cond (decide (s80.2 < 8)) ((remO s80.1 2).bind fun z9_1 => cond ((s80.1.tmod 2) == 1) ((divO .u32 s80.1 2).bind fun z10_1 => haywainref02_Sum.l80 K k ((xorI .u32 (IntKind.wrap .u32 (s80.1.tdiv 2)) 3988292384), (IntKind.wrap .i64 (s80.2 + 1)))) ((divO .u32 s80.1 2).bind fun z11_1 => haywainref02_Sum.l80 K k ((IntKind.wrap .u32 (s80.1.tdiv 2)), (IntKind.wrap .i64 (s80.2 + 1))))) (some (s80.1))
def haywainref02_Sum.l1 (K : Nat) (a0 : List Int) : Nat → (Int × Int) → Option Int
  | 0, _ => none
  | k + 1, s1 => cond (decide (s1.2 < (a0.length : Int))) (((idxO a0 s1.2).bind fun x5_3 => (haywainref02_Sum.l80 K K ((xorI .u32 s1.1 (IntKind.wrap .u32 x5_3)), 0) : Option Int).bind fun o73 : Int => some (o73) : Option Int).bind fun o59 : Int => haywainref02_Sum.l1 K a0 k (o59, (IntKind.wrap .i64 (s1.2 + 1)))) (some ((xorI .u32 s1.1 4294967295)))
def haywainref02_Sum.f (K : Nat) (a0 : List Int) : Option Int := haywainref02_Sum.l1 K a0 K (4294967295, 0)
set_option maxRecDepth 100000 in
set_option maxHeartbeats 1000000 in
theorem haywainref02_Sum.con (K : Nat) (a0 : List Int) (h0 : Hd) (r : Int) (X : Nat → Nat → Prop) (w : World) (hS : St X w [] [] [] [] [Rd (Kd.int .u8) h0.1 h0.2 a0] w) (H : haywainref02_Sum.f K a0 = some r) :
    Cn Try.prog 65 [.slice h0.1 a0.length h0.2] X w [] (fun i : Unit => .int .u32 r) (fun i => []) (fun i => []) (fun i => []) := by
 refine Cn.of Try.func65 (by kernel_rfl) hS ?_
 unfold haywainref02_Sum.f at H
 refine J.seq (by kernel_rfl) ?_
 refine J.region (by kernel_rfl) ?_
 refine O.pure 1 [] [0] [] (fr' := [(0, .slice h0.1 a0.length h0.2)]) (bx' := []) (by kernel_rfl) ?_
 refine O.nil (by kernel_rfl) ?_
 refine J.seq (by kernel_rfl) ?_
 refine J.region (by kernel_rfl) ?_
 refine O.pure 1 [] [0, 3] [] (fr' := [(0, .slice h0.1 a0.length h0.2), (3, .int .u32 4294967295)]) (bx' := []) (by kernel_rfl) ?_
 refine O.nil (by kernel_rfl) ?_
 refine J.seq (by kernel_rfl) ?_
 refine J.seq (by kernel_rfl) ?_
 refine J.region (by kernel_rfl) ?_
 refine O.pure 1 [] [0, 3, 4] [] (fr' := [(0, .slice h0.1 a0.length h0.2), (3, .int .u32 4294967295), (4, .int .i64 0)]) (bx' := []) (by kernel_rfl) ?_
 refine O.nil (by kernel_rfl) ?_
 refine J.block (id := 0) (by kernel_rfl) ?_
 refine J.loopI (σ := Int × Int) (γ := Unit) (f := fun m_ s_ => haywainref02_Sum.l1 K a0 m_ s_) (fun s1 g1 => [(0, .slice h0.1 a0.length h0.2), (3, .int .u32 s1.1), (4, .int .i64 s1.2)]) (fun s1 g1 => St X w [] [] [] [] [Rd (Kd.int .u8) h0.1 h0.2 a0]) K (4294967295, 0) () (by kernel_rfl) H (fun _ => rfl) (fun m_ s1 H ih1 g1 => ?_) (fun h_ => ?_)
 ·unfold haywainref02_Sum.l1 at H
  refine J.seq (by kernel_rfl) ?_
  refine J.seq (by kernel_rfl) ?_
  refine J.region (by kernel_rfl) ?_
  refine O.pure 4 [] [0, 3, 4, 9] [] (fr' := [(0, .slice h0.1 a0.length h0.2), (3, .int .u32 s1.1), (4, .int .i64 s1.2), (9, .bool (decide (s1.2 < (a0.length : Int))))]) (bx' := []) (by kernel_rfl) ?_
  refine O.nil (by kernel_rfl) ?_
  rcases condE H with ⟨hc58, H⟩ | ⟨hc58, H⟩
  ·refine J.condT (x := .tmp 9) (t := (decide (s1.2 < (a0.length : Int)))) (by kernel_rfl) (by kernel_rfl) hc58 ?_
   refine J.skip (by kernel_rfl) ?_
   refine J.seq (by kernel_rfl) ?_
   refine J.join (α := Int) (γ := Unit) (fun o59 q59 => [(0, .slice h0.1 a0.length h0.2), (3, .int .u32 o59), (4, .int .i64 s1.2)]) (fun o59 q59 => St X w [] [] [] [] [Rd (Kd.int .u8) h0.1 h0.2 a0]) H (fun o59 q59 H => ?_) (fun o59 H hj59 => ?_)
   ·refine J.region (by kernel_rfl) ?_
    refine O.pure 3 [] [0, 3, 4] [] (fr' := [(0, .slice h0.1 a0.length h0.2), (3, .int .u32 o59), (4, .int .i64 (IntKind.wrap .i64 (s1.2 + 1)))]) (bx' := []) (by kernel_rfl) ?_
    refine O.nil (by kernel_rfl) ?_
    exact J.conv2 [0, 3, 4] [0] [] [] (by kernel_rfl) (by kernel_rfl) (by kernel_rfl) (by kernel_rfl) (by decide) (ih1 (o59, (IntKind.wrap .i64 (s1.2 + 1))) () H)
   ·refine J.block (id := 1) (by kernel_rfl) ?_
    refine J.seq (by kernel_rfl) ?_
    obtain ⟨x5_3, hx5_3, H⟩ := bindE H
    obtain ⟨hx5_3a, hx5_3⟩ := idxE hx5_3
    refine J.region (by kernel_rfl) ?_
    refine O.pure 3 [] [0, 3, 4, 12, 13, 14] [] (fr' := [(0, .slice h0.1 a0.length h0.2), (3, .int .u32 s1.1), (4, .int .i64 s1.2), (12, .int .u32 s1.1), (13, .slice h0.1 a0.length h0.2), (14, .int .i64 s1.2)]) (bx' := []) (by kernel_rfl) ?_
    refine O.open (d := (Kd.int .u8)) (h := h0) (i := s1.2) 0 rfl hx5_3 (Lay.int _ _) (fun p5_3 hp5_3A => ?_)
    refine O.q (v := .pointer (some ⟨p5_3.1, p5_3.2.1 + s1.2.toNat * 1, none⟩)) (some 15) (Qu.idx (t := 27) (x := .tmp 13) (y := .tmp 14) (c := h0.2) (kk := .i64) (sz := 1) (by kernel_rfl) (by kernel_rfl) (by kernel_rfl) (by kernel_rfl) hx5_3a (idx_lt hx5_3) hp5_3A) (by kernel_rfl) ?_
    refine O.pure 4 [(0, 0)] [0, 3, 4] [p5_3.1, p5_3.2.1 + s1.2.toNat * 1] (fr' := [(0, .slice h0.1 a0.length h0.2), (3, .int .u32 (xorI .u32 s1.1 (IntKind.wrap .u32 x5_3))), (4, .int .i64 s1.2)]) (bx' := []) (by kernel_rfl) ?_
    refine O.nil (by kernel_rfl) ?_
    refine J.seq (by kernel_rfl) ?_
    refine J.region (by kernel_rfl) ?_
    refine O.pure 1 [] [0, 3, 4, 5] [] (fr' := [(0, .slice h0.1 a0.length h0.2), (3, .int .u32 (xorI .u32 s1.1 (IntKind.wrap .u32 x5_3))), (4, .int .i64 s1.2), (5, .int .i64 0)]) (bx' := []) (by kernel_rfl) ?_
    refine O.nil (by kernel_rfl) ?_
    refine J.join (α := Int) (γ := Unit) (fun o73 q73 => [(0, .slice h0.1 a0.length h0.2), (3, .int .u32 o73), (4, .int .i64 s1.2)]) (fun o73 q73 => St X w [] [] [] [] [Rd (Kd.int .u8) h0.1 h0.2 a0]) H (fun o73 q73 H => ?_) (fun o73 H hj73 => ?_)
    ·refine J.out ?_
     obtain rfl := Option.some.inj H
     exact J.conv2 [0, 3, 4] [0] [] [] (by kernel_rfl) (by kernel_rfl) (by kernel_rfl) (by kernel_rfl) (by decide) (hj59 ())
    ·refine J.block (id := 2) (by kernel_rfl) ?_
     refine J.loopI (σ := Int × Int) (γ := Unit) (f := fun m_ s_ => haywainref02_Sum.l80 K m_ s_) (fun s80 g80 => [(0, .slice h0.1 a0.length h0.2), (3, .int .u32 s80.1), (4, .int .i64 s1.2), (5, .int .i64 s80.2)]) (fun s80 g80 => St X w [] [] [] [] [Rd (Kd.int .u8) h0.1 h0.2 a0]) K ((xorI .u32 s1.1 (IntKind.wrap .u32 x5_3)), 0) () (by kernel_rfl) H (fun _ => rfl) (fun m_ s80 H ih80 g80 => ?_) (fun h_ => ?_)
     ·unfold haywainref02_Sum.l80 at H
      refine J.seq (by kernel_rfl) ?_
      refine J.seq (by kernel_rfl) ?_
      refine J.region (by kernel_rfl) ?_
      refine O.pure 2 [] [0, 3, 4, 5, 20] [] (fr' := [(0, .slice h0.1 a0.length h0.2), (3, .int .u32 s80.1), (4, .int .i64 s1.2), (5, .int .i64 s80.2), (20, .bool (decide (s80.2 < 8)))]) (bx' := []) (by kernel_rfl) ?_
      refine O.nil (by kernel_rfl) ?_
      rcases condE H with ⟨hc84, H⟩ | ⟨hc84, H⟩
      ·refine J.condT (x := .tmp 20) (t := (decide (s80.2 < 8))) (by kernel_rfl) (by kernel_rfl) hc84 ?_
       refine J.skip (by kernel_rfl) ?_
       refine J.seq (by kernel_rfl) ?_
       refine J.block (id := 3) (by kernel_rfl) ?_
       refine J.seq (by kernel_rfl) ?_
       obtain ⟨z9_1, hz9_1, H⟩ := bindE H
       have hz9_1a := (remE hz9_1).1
       refine J.region (by kernel_rfl) ?_
       refine O.pure 1 [] [0, 3, 4, 5, 23] [] (fr' := [(0, .slice h0.1 a0.length h0.2), (3, .int .u32 s80.1), (4, .int .i64 s1.2), (5, .int .i64 s80.2), (23, .int .u32 s80.1)]) (bx' := []) (by kernel_rfl) ?_
       refine O.q (v := .int .u32 (s80.1.tmod 2)) (some 24) (Qu.rem (t := 107) (t' := 107) (x := .tmp 23) (y := .const (.int .u32 2)) (a := s80.1) (b := 2) (by kernel_rfl) (by kernel_rfl) (by kernel_rfl) hz9_1a) (by kernel_rfl) ?_
       refine O.pure 1 [] [0, 3, 4, 5, 25] [] (fr' := [(0, .slice h0.1 a0.length h0.2), (3, .int .u32 s80.1), (4, .int .i64 s1.2), (5, .int .i64 s80.2), (25, .bool ((s80.1.tmod 2) == 1))]) (bx' := []) (by kernel_rfl) ?_
       refine O.nil (by kernel_rfl) ?_
       rcases condE H with ⟨hc85, H⟩ | ⟨hc85, H⟩
       ·refine J.condT (x := .tmp 25) (t := ((s80.1.tmod 2) == 1)) (by kernel_rfl) (by kernel_rfl) hc85 ?_
        obtain ⟨z10_1, hz10_1, H⟩ := bindE H
        have hz10_1a := (divE hz10_1).1
        refine J.region (by kernel_rfl) ?_
        refine O.pure 1 [] [0, 3, 4, 5, 26] [] (fr' := [(0, .slice h0.1 a0.length h0.2), (3, .int .u32 s80.1), (4, .int .i64 s1.2), (5, .int .i64 s80.2), (26, .int .u32 s80.1)]) (bx' := []) (by kernel_rfl) ?_
        refine O.q (v := .int .u32 (IntKind.wrap .u32 (s80.1.tdiv 2))) (some 27) (Qu.div (t := 107) (t' := 107) (x := .tmp 26) (y := .const (.int .u32 2)) (a := s80.1) (b := 2) (by kernel_rfl) (by kernel_rfl) (by kernel_rfl) hz10_1a) (by kernel_rfl) ?_
        refine O.pure 2 [] [0, 3, 4, 5] [] (fr' := [(0, .slice h0.1 a0.length h0.2), (3, .int .u32 (xorI .u32 (IntKind.wrap .u32 (s80.1.tdiv 2)) 3988292384)), (4, .int .i64 s1.2), (5, .int .i64 s80.2)]) (bx' := []) (by kernel_rfl) ?_
        refine O.nil (by kernel_rfl) ?_
        refine J.out ?_
        refine J.region (by kernel_rfl) ?_
        refine O.pure 3 [] [0, 3, 4, 5] [] (fr' := [(0, .slice h0.1 a0.length h0.2), (3, .int .u32 (xorI .u32 (IntKind.wrap .u32 (s80.1.tdiv 2)) 3988292384)), (4, .int .i64 s1.2), (5, .int .i64 (IntKind.wrap .i64 (s80.2 + 1)))]) (bx' := []) (by kernel_rfl) ?_
        refine O.nil (by kernel_rfl) ?_
        exact J.conv2 [0, 3, 4, 5] [0] [] [] (by kernel_rfl) (by kernel_rfl) (by kernel_rfl) (by kernel_rfl) (by decide) (ih80 ((xorI .u32 (IntKind.wrap .u32 (s80.1.tdiv 2)) 3988292384), (IntKind.wrap .i64 (s80.2 + 1))) () H)
       ·refine J.condF (x := .tmp 25) (t := ((s80.1.tmod 2) == 1)) (by kernel_rfl) (by kernel_rfl) hc85 ?_
        obtain ⟨z11_1, hz11_1, H⟩ := bindE H
        have hz11_1a := (divE hz11_1).1
        refine J.region (by kernel_rfl) ?_
        refine O.pure 1 [] [0, 3, 4, 5, 29] [] (fr' := [(0, .slice h0.1 a0.length h0.2), (3, .int .u32 s80.1), (4, .int .i64 s1.2), (5, .int .i64 s80.2), (29, .int .u32 s80.1)]) (bx' := []) (by kernel_rfl) ?_
        refine O.q (v := .int .u32 (IntKind.wrap .u32 (s80.1.tdiv 2))) (some 30) (Qu.div (t := 107) (t' := 107) (x := .tmp 29) (y := .const (.int .u32 2)) (a := s80.1) (b := 2) (by kernel_rfl) (by kernel_rfl) (by kernel_rfl) hz11_1a) (by kernel_rfl) ?_
        refine O.pure 1 [] [0, 3, 4, 5] [] (fr' := [(0, .slice h0.1 a0.length h0.2), (3, .int .u32 (IntKind.wrap .u32 (s80.1.tdiv 2))), (4, .int .i64 s1.2), (5, .int .i64 s80.2)]) (bx' := []) (by kernel_rfl) ?_
        refine O.nil (by kernel_rfl) ?_
        refine J.out ?_
        refine J.region (by kernel_rfl) ?_
        refine O.pure 3 [] [0, 3, 4, 5] [] (fr' := [(0, .slice h0.1 a0.length h0.2), (3, .int .u32 (IntKind.wrap .u32 (s80.1.tdiv 2))), (4, .int .i64 s1.2), (5, .int .i64 (IntKind.wrap .i64 (s80.2 + 1)))]) (bx' := []) (by kernel_rfl) ?_
        refine O.nil (by kernel_rfl) ?_
        exact J.conv2 [0, 3, 4, 5] [0] [] [] (by kernel_rfl) (by kernel_rfl) (by kernel_rfl) (by kernel_rfl) (by decide) (ih80 ((IntKind.wrap .u32 (s80.1.tdiv 2)), (IntKind.wrap .i64 (s80.2 + 1))) () H)
      ·refine J.condF (x := .tmp 20) (t := (decide (s80.2 < 8))) (by kernel_rfl) (by kernel_rfl) hc84 ?_
       refine J.exit (id := 2) (by kernel_rfl) rfl ?_
       obtain rfl := Option.some.inj H
       exact J.conv2 [0, 3, 4] [0] [] [] (by kernel_rfl) (by kernel_rfl) (by kernel_rfl) (by kernel_rfl) (by decide) (hj73 ())
     ·exact J.conv2 [0, 3, 4, 5] [0] [] [] (by kernel_rfl) (by kernel_rfl) (by kernel_rfl) (by kernel_rfl) (by decide) h_
  ·refine J.condF (x := .tmp 9) (t := (decide (s1.2 < (a0.length : Int)))) (by kernel_rfl) (by kernel_rfl) hc58 ?_
   refine J.exit (id := 0) (by kernel_rfl) rfl ?_
   refine J.seq (by kernel_rfl) ?_
   refine J.region (by kernel_rfl) ?_
   refine O.pure 3 [] [2] [] (fr' := [(2, .int .u32 (xorI .u32 s1.1 4294967295))]) (bx' := []) (by kernel_rfl) ?_
   refine O.nil (by kernel_rfl) ?_
   obtain rfl := Option.some.inj H
   exact J.doneS [] [] [] [] [] () (vs := [.int .u32 (xorI .u32 s1.1 4294967295)]) (by kernel_rfl) (by kernel_rfl) (by kernel_rfl) (by kernel_rfl) (by kernel_rfl) (by decide)
 ·exact J.conv2 [0, 3, 4] [0] [] [] (by kernel_rfl) (by kernel_rfl) (by kernel_rfl) (by kernel_rfl) (by decide) h_
/-! ### haywain/haywainref02.Frame: function 44 -/
def haywainref02_Frame.f (K : Nat) (a0 : List Int) : Option (List Int) := (haywainref02_Digits.f K (IntKind.wrap .u64 (a0.length : Int)) 4).bind fun x1_3 => (appO 1 ([] : List Int) x1_3).bind fun y2_2 => (appO 1 (([] : List Int) ++ x1_3) a0).bind fun y3_2 => (appO 1 ([] : List Int) x1_3).bind fun y4_2 => (haywainref02_Sum.f K ((([] : List Int) ++ x1_3) ++ a0)).bind fun x5_2 => (haywainref02_Digits.f K (IntKind.wrap .u64 x5_2) 4).bind fun x5_4 => (appO 1 (([] : List Int) ++ x1_3) x5_4).bind fun y5_5 => (appO 1 ((([] : List Int) ++ x1_3) ++ x5_4) a0).bind fun y6_2 => some ((((([] : List Int) ++ x1_3) ++ x5_4) ++ a0))
set_option maxRecDepth 100000 in
set_option maxHeartbeats 1000000 in
theorem haywainref02_Frame.con (K : Nat) (a0 : List Int) (h0 : Hd) (r : (List Int)) (X : Nat → Nat → Prop) (w : World) (hS : St X w [] [] [] [] [Rd (Kd.int .u8) h0.1 h0.2 a0] w) (H : haywainref02_Frame.f K a0 = some r) :
    Cn Try.prog 44 [.slice h0.1 a0.length h0.2] X w [] (fun i : Hd => .slice i.1 r.length i.2) (fun i => []) (fun i => [mkRow (Kd.int .u8) 5 (.slice i.1 r.length i.2) r]) (fun i => []) := by
 refine Cn.of Try.func44 (by kernel_rfl) hS ?_
 unfold haywainref02_Frame.f at H
 refine J.seq (by kernel_rfl) ?_
 refine J.region (by kernel_rfl) ?_
 refine O.pure 1 [] [0] [] (fr' := [(0, .slice h0.1 a0.length h0.2)]) (bx' := []) (by kernel_rfl) ?_
 refine O.nil (by kernel_rfl) ?_
 refine J.seq (by kernel_rfl) ?_
 obtain ⟨x1_3, hx1_3, H⟩ := bindE H
 refine J.region (by kernel_rfl) ?_
 refine O.pure 3 [] [0, 8] [] (fr' := [(0, .slice h0.1 a0.length h0.2), (8, .int .u64 (IntKind.wrap .u64 (a0.length : Int)))]) (bx' := []) (by kernel_rfl) ?_
 refine O.e (some 9) (Ev.call0 (xs := [.tmp 8, .const (.int .i64 4)]) [] (by kernel_rfl) (by kernel_rfl) (fun w hS => haywainref02_Digits.con K (IntKind.wrap .u64 (a0.length : Int)) 4  _ _ w hS hx1_3)) (by kernel_rfl) (fun p1_3 => ?_)
 refine O.pure 1 [] [0, 3] [] (fr' := [(0, .slice h0.1 a0.length h0.2), (3, .slice p1_3.1 x1_3.length p1_3.2)]) (bx' := []) (by kernel_rfl) ?_
 refine O.nil (by kernel_rfl) ?_
 refine J.seq (by kernel_rfl) ?_
 obtain ⟨y2_2, hy2_2, H⟩ := bindE H
 have hy2_2a := (appE hy2_2).1
 refine J.region (by kernel_rfl) ?_
 refine O.e (some 10) (Ev.lit (t := 27) (len := 0) (parts := #[]) (ps := []) (cs := []) (e := 5) (Kd.int .u8) ([] : List Int) (by kernel_rfl) (by kernel_rfl) (by kernel_rfl) (by kernel_rfl) (by kernel_rfl) (by decide) (fun w' hφ => (Els.nil _ _ _))) (by kernel_rfl) (fun p2_0 => ?_)
 refine O.pure 1 [] [0, 3, 10, 11] [] (fr' := [(0, .slice h0.1 a0.length h0.2), (3, .slice p1_3.1 x1_3.length p1_3.2), (10, .slice ((some ⟨p2_0, 0, none⟩, 0) : Hd).1 ([] : List Int).length ((some ⟨p2_0, 0, none⟩, 0) : Hd).2), (11, .slice p1_3.1 x1_3.length p1_3.2)]) (bx' := []) (by kernel_rfl) ?_
 refine O.e (some 12) (Ev.mono (fun w hS => hS.rowsel [1, 0] rfl (by decide)) (Ev.mono (fun w hS => hS.freezeH (h := p1_3) (xs := x1_3)) (Ev.appSl (d := (Kd.int .u8)) (ys := x1_3) (A := p1_3.1) (c := p1_3.2) (x := .tmp 10) (y := .tmp 11) (t := 27) (bytes := 1) 0 (by kernel_rfl) (by kernel_rfl) (by kernel_rfl) rfl (by kernel_rfl) (by decide) hy2_2a))) (by kernel_rfl) (fun p2_2 => ?_)
 refine O.pure 1 [] [0, 3, 4] [] (fr' := [(0, .slice h0.1 a0.length h0.2), (3, .slice p1_3.1 x1_3.length p1_3.2), (4, .slice p2_2.1 (([] : List Int) ++ x1_3).length p2_2.2)]) (bx' := []) (by kernel_rfl) ?_
 refine O.nil (by kernel_rfl) ?_
 refine J.seq (by kernel_rfl) ?_
 obtain ⟨y3_2, hy3_2, H⟩ := bindE H
 have hy3_2a := (appE hy3_2).1
 refine J.region (by kernel_rfl) ?_
 refine O.pure 2 [] [0, 3, 4, 13, 14] [] (fr' := [(0, .slice h0.1 a0.length h0.2), (3, .slice p1_3.1 x1_3.length p1_3.2), (4, .slice p2_2.1 (([] : List Int) ++ x1_3).length p2_2.2), (13, .slice p2_2.1 (([] : List Int) ++ x1_3).length p2_2.2), (14, .slice h0.1 a0.length h0.2)]) (bx' := []) (by kernel_rfl) ?_
 refine O.e (some 15) (Ev.appSl (d := (Kd.int .u8)) (ys := a0) (A := h0.1) (c := h0.2) (x := .tmp 13) (y := .tmp 14) (t := 27) (bytes := 1) 1 (by kernel_rfl) (by kernel_rfl) (by kernel_rfl) rfl (by kernel_rfl) (by decide) hy3_2a) (by kernel_rfl) (fun p3_2 => ?_)
 refine O.pure 1 [] [0, 3, 4] [] (fr' := [(0, .slice h0.1 a0.length h0.2), (3, .slice p1_3.1 x1_3.length p1_3.2), (4, .slice p3_2.1 ((([] : List Int) ++ x1_3) ++ a0).length p3_2.2)]) (bx' := []) (by kernel_rfl) ?_
 refine O.nil (by kernel_rfl) ?_
 refine J.seq (by kernel_rfl) ?_
 obtain ⟨y4_2, hy4_2, H⟩ := bindE H
 have hy4_2a := (appE hy4_2).1
 refine J.region (by kernel_rfl) ?_
 refine O.e (some 16) (Ev.lit (t := 27) (len := 0) (parts := #[]) (ps := []) (cs := []) (e := 5) (Kd.int .u8) ([] : List Int) (by kernel_rfl) (by kernel_rfl) (by kernel_rfl) (by kernel_rfl) (by kernel_rfl) (by decide) (fun w' hφ => (Els.nil _ _ _))) (by kernel_rfl) (fun p4_0 => ?_)
 refine O.pure 1 [] [0, 4, 16, 17] [] (fr' := [(0, .slice h0.1 a0.length h0.2), (4, .slice p3_2.1 ((([] : List Int) ++ x1_3) ++ a0).length p3_2.2), (16, .slice ((some ⟨p4_0, 0, none⟩, 0) : Hd).1 ([] : List Int).length ((some ⟨p4_0, 0, none⟩, 0) : Hd).2), (17, .slice p1_3.1 x1_3.length p1_3.2)]) (bx' := []) (by kernel_rfl) ?_
 refine O.e (some 18) (Ev.appSl (d := (Kd.int .u8)) (ys := x1_3) (A := p1_3.1) (c := p1_3.2) (x := .tmp 16) (y := .tmp 17) (t := 27) (bytes := 1) 0 (by kernel_rfl) (by kernel_rfl) (by kernel_rfl) rfl (by kernel_rfl) (by decide) hy4_2a) (by kernel_rfl) (fun p4_2 => ?_)
 refine O.pure 1 [] [0, 4, 5] [] (fr' := [(0, .slice h0.1 a0.length h0.2), (4, .slice p3_2.1 ((([] : List Int) ++ x1_3) ++ a0).length p3_2.2), (5, .slice p4_2.1 (([] : List Int) ++ x1_3).length p4_2.2)]) (bx' := []) (by kernel_rfl) ?_
 refine O.nil (by kernel_rfl) ?_
 refine J.seq (by kernel_rfl) ?_
 obtain ⟨x5_2, hx5_2, H⟩ := bindE H
 obtain ⟨x5_4, hx5_4, H⟩ := bindE H
 obtain ⟨y5_5, hy5_5, H⟩ := bindE H
 have hy5_5a := (appE hy5_5).1
 refine J.region (by kernel_rfl) ?_
 refine O.pure 2 [] [0, 5, 19, 20] [] (fr' := [(0, .slice h0.1 a0.length h0.2), (5, .slice p4_2.1 (([] : List Int) ++ x1_3).length p4_2.2), (19, .slice p4_2.1 (([] : List Int) ++ x1_3).length p4_2.2), (20, .slice p3_2.1 ((([] : List Int) ++ x1_3) ++ a0).length p3_2.2)]) (bx' := []) (by kernel_rfl) ?_
 refine O.e (some 21) (Ev.callLb (xs1 := [.tmp 20]) [0] (fun w hS => (hS.rowsel [1, 0] rfl (by decide)).freezeL (hh := p3_2) (m := ((([] : List Int) ++ x1_3) ++ a0).length) (xs := ((([] : List Int) ++ x1_3) ++ a0)) rfl) (by kernel_rfl) (by kernel_rfl) (fun _ q hq => by cases hq) (fun w hS => haywainref02_Sum.con K ((([] : List Int) ++ x1_3) ++ a0) p3_2  _ _ w hS hx5_2)) (by kernel_rfl) (fun _ => ?_)
 refine O.pure 1 [] [0, 5, 19, 22] [] (fr' := [(0, .slice h0.1 a0.length h0.2), (5, .slice p4_2.1 (([] : List Int) ++ x1_3).length p4_2.2), (19, .slice p4_2.1 (([] : List Int) ++ x1_3).length p4_2.2), (22, .int .u64 (IntKind.wrap .u64 x5_2))]) (bx' := []) (by kernel_rfl) ?_
 refine O.e (some 23) (Ev.call0 (xs := [.tmp 22, .const (.int .i64 4)]) [] (by kernel_rfl) (by kernel_rfl) (fun w hS => haywainref02_Digits.con K (IntKind.wrap .u64 x5_2) 4  _ _ w hS hx5_4)) (by kernel_rfl) (fun p5_4 => ?_)
 refine O.e (some 24) (Ev.mono (fun w hS => hS.freezeH (h := p5_4) (xs := x5_4)) (Ev.appSl (d := (Kd.int .u8)) (ys := x5_4) (A := p5_4.1) (c := p5_4.2) (x := .tmp 19) (y := .tmp 23) (t := 27) (bytes := 1) 0 (by kernel_rfl) (by kernel_rfl) (by kernel_rfl) rfl (by kernel_rfl) (by decide) hy5_5a)) (by kernel_rfl) (fun p5_5 => ?_)
 refine O.pure 1 [] [0, 5] [] (fr' := [(0, .slice h0.1 a0.length h0.2), (5, .slice p5_5.1 ((([] : List Int) ++ x1_3) ++ x5_4).length p5_5.2)]) (bx' := []) (by kernel_rfl) ?_
 refine O.nil (by kernel_rfl) ?_
 refine J.seq (by kernel_rfl) ?_
 obtain ⟨y6_2, hy6_2, H⟩ := bindE H
 have hy6_2a := (appE hy6_2).1
 refine J.region (by kernel_rfl) ?_
 refine O.pure 2 [] [25, 26] [] (fr' := [(25, .slice p5_5.1 ((([] : List Int) ++ x1_3) ++ x5_4).length p5_5.2), (26, .slice h0.1 a0.length h0.2)]) (bx' := []) (by kernel_rfl) ?_
 refine O.e (some 27) (Ev.appSl (d := (Kd.int .u8)) (ys := a0) (A := h0.1) (c := h0.2) (x := .tmp 25) (y := .tmp 26) (t := 27) (bytes := 1) 2 (by kernel_rfl) (by kernel_rfl) (by kernel_rfl) rfl (by kernel_rfl) (by decide) hy6_2a) (by kernel_rfl) (fun p6_2 => ?_)
 refine O.pure 1 [] [2] [] (fr' := [(2, .slice p6_2.1 (((([] : List Int) ++ x1_3) ++ x5_4) ++ a0).length p6_2.2)]) (bx' := []) (by kernel_rfl) ?_
 refine O.nil (by kernel_rfl) ?_
 obtain rfl := Option.some.inj H
 exact J.doneS [] [] [] [] [0] p6_2 (vs := [.slice p6_2.1 (((([] : List Int) ++ x1_3) ++ x5_4) ++ a0).length p6_2.2]) (by kernel_rfl) (by kernel_rfl) (by kernel_rfl) (by kernel_rfl) (by kernel_rfl) (by decide)
/-! ### haywain/haywainref02.Value: function 62 -/
def haywainref02_Value.l1 (K : Nat) (a0 : List Int) : Nat → (Int × Int) → Option Int
  | 0, _ => none
  | k + 1, s1 => cond (decide (s1.2 < (a0.length : Int))) ((idxO a0 s1.2).bind fun x5_4 => haywainref02_Value.l1 K a0 k ((IntKind.wrap .u64 ((IntKind.wrap .u64 (s1.1 * 256)) + (IntKind.wrap .u64 x5_4))), (IntKind.wrap .i64 (s1.2 + 1)))) (some (s1.1))
def haywainref02_Value.f (K : Nat) (a0 : List Int) : Option Int := haywainref02_Value.l1 K a0 K (0, 0)
set_option maxRecDepth 100000 in
set_option maxHeartbeats 1000000 in
theorem haywainref02_Value.con (K : Nat) (a0 : List Int) (h0 : Hd) (r : Int) (X : Nat → Nat → Prop) (w : World) (hS : St X w [] [] [] [] [Rd (Kd.int .u8) h0.1 h0.2 a0] w) (H : haywainref02_Value.f K a0 = some r) :
    Cn Try.prog 62 [.slice h0.1 a0.length h0.2] X w [] (fun i : Unit => .int .u64 r) (fun i => []) (fun i => []) (fun i => []) := by
 refine Cn.of Try.func62 (by kernel_rfl) hS ?_
 unfold haywainref02_Value.f at H
 refine J.seq (by kernel_rfl) ?_
 refine J.region (by kernel_rfl) ?_
 refine O.pure 1 [] [0] [] (fr' := [(0, .slice h0.1 a0.length h0.2)]) (bx' := []) (by kernel_rfl) ?_
 refine O.nil (by kernel_rfl) ?_
 refine J.seq (by kernel_rfl) ?_
 refine J.region (by kernel_rfl) ?_
 refine O.pure 1 [] [0, 3] [] (fr' := [(0, .slice h0.1 a0.length h0.2), (3, .int .u64 0)]) (bx' := []) (by kernel_rfl) ?_
 refine O.nil (by kernel_rfl) ?_
 refine J.seq (by kernel_rfl) ?_
 refine J.seq (by kernel_rfl) ?_
 refine J.region (by kernel_rfl) ?_
 refine O.pure 1 [] [0, 3, 4] [] (fr' := [(0, .slice h0.1 a0.length h0.2), (3, .int .u64 0), (4, .int .i64 0)]) (bx' := []) (by kernel_rfl) ?_
 refine O.nil (by kernel_rfl) ?_
 refine J.block (id := 0) (by kernel_rfl) ?_
 refine J.loopI (σ := Int × Int) (γ := Unit) (f := fun m_ s_ => haywainref02_Value.l1 K a0 m_ s_) (fun s1 g1 => [(0, .slice h0.1 a0.length h0.2), (3, .int .u64 s1.1), (4, .int .i64 s1.2)]) (fun s1 g1 => St X w [] [] [] [] [Rd (Kd.int .u8) h0.1 h0.2 a0]) K (0, 0) () (by kernel_rfl) H (fun _ => rfl) (fun m_ s1 H ih1 g1 => ?_) (fun h_ => ?_)
 ·unfold haywainref02_Value.l1 at H
  refine J.seq (by kernel_rfl) ?_
  refine J.seq (by kernel_rfl) ?_
  refine J.region (by kernel_rfl) ?_
  refine O.pure 4 [] [0, 3, 4, 8] [] (fr' := [(0, .slice h0.1 a0.length h0.2), (3, .int .u64 s1.1), (4, .int .i64 s1.2), (8, .bool (decide (s1.2 < (a0.length : Int))))]) (bx' := []) (by kernel_rfl) ?_
  refine O.nil (by kernel_rfl) ?_
  rcases condE H with ⟨hc4, H⟩ | ⟨hc4, H⟩
  ·refine J.condT (x := .tmp 8) (t := (decide (s1.2 < (a0.length : Int)))) (by kernel_rfl) (by kernel_rfl) hc4 ?_
   refine J.skip (by kernel_rfl) ?_
   refine J.seq (by kernel_rfl) ?_
   refine J.block (id := 1) (by kernel_rfl) ?_
   obtain ⟨x5_4, hx5_4, H⟩ := bindE H
   obtain ⟨hx5_4a, hx5_4⟩ := idxE hx5_4
   refine J.region (by kernel_rfl) ?_
   refine O.pure 4 [] [0, 3, 4, 12, 13, 14] [] (fr' := [(0, .slice h0.1 a0.length h0.2), (3, .int .u64 s1.1), (4, .int .i64 s1.2), (12, .int .u64 (IntKind.wrap .u64 (s1.1 * 256))), (13, .slice h0.1 a0.length h0.2), (14, .int .i64 s1.2)]) (bx' := []) (by kernel_rfl) ?_
   refine O.open (d := (Kd.int .u8)) (h := h0) (i := s1.2) 0 rfl hx5_4 (Lay.int _ _) (fun p5_4 hp5_4A => ?_)
   refine O.q (v := .pointer (some ⟨p5_4.1, p5_4.2.1 + s1.2.toNat * 1, none⟩)) (some 15) (Qu.idx (t := 27) (x := .tmp 13) (y := .tmp 14) (c := h0.2) (kk := .i64) (sz := 1) (by kernel_rfl) (by kernel_rfl) (by kernel_rfl) (by kernel_rfl) hx5_4a (idx_lt hx5_4) hp5_4A) (by kernel_rfl) ?_
   refine O.pure 4 [(0, 0)] [0, 3, 4] [p5_4.1, p5_4.2.1 + s1.2.toNat * 1] (fr' := [(0, .slice h0.1 a0.length h0.2), (3, .int .u64 (IntKind.wrap .u64 ((IntKind.wrap .u64 (s1.1 * 256)) + (IntKind.wrap .u64 x5_4)))), (4, .int .i64 s1.2)]) (bx' := []) (by kernel_rfl) ?_
   refine O.nil (by kernel_rfl) ?_
   refine J.out ?_
   refine J.region (by kernel_rfl) ?_
   refine O.pure 3 [] [0, 3, 4] [] (fr' := [(0, .slice h0.1 a0.length h0.2), (3, .int .u64 (IntKind.wrap .u64 ((IntKind.wrap .u64 (s1.1 * 256)) + (IntKind.wrap .u64 x5_4)))), (4, .int .i64 (IntKind.wrap .i64 (s1.2 + 1)))]) (bx' := []) (by kernel_rfl) ?_
   refine O.nil (by kernel_rfl) ?_
   exact J.conv2 [0, 3, 4] [0] [] [] (by kernel_rfl) (by kernel_rfl) (by kernel_rfl) (by kernel_rfl) (by decide) (ih1 ((IntKind.wrap .u64 ((IntKind.wrap .u64 (s1.1 * 256)) + (IntKind.wrap .u64 x5_4))), (IntKind.wrap .i64 (s1.2 + 1))) () H)
  ·refine J.condF (x := .tmp 8) (t := (decide (s1.2 < (a0.length : Int)))) (by kernel_rfl) (by kernel_rfl) hc4 ?_
   refine J.exit (id := 0) (by kernel_rfl) rfl ?_
   refine J.seq (by kernel_rfl) ?_
   refine J.region (by kernel_rfl) ?_
   refine O.pure 2 [] [2] [] (fr' := [(2, .int .u64 s1.1)]) (bx' := []) (by kernel_rfl) ?_
   refine O.nil (by kernel_rfl) ?_
   obtain rfl := Option.some.inj H
   exact J.doneS [] [] [] [] [] () (vs := [.int .u64 s1.1]) (by kernel_rfl) (by kernel_rfl) (by kernel_rfl) (by kernel_rfl) (by kernel_rfl) (by decide)
 ·exact J.conv2 [0, 3, 4] [0] [] [] (by kernel_rfl) (by kernel_rfl) (by kernel_rfl) (by kernel_rfl) (by decide) h_
/-! ### haywain/haywainref02.TakeFrame: function 37 -/
def haywainref02_TakeFrame.f (K : Nat) (a0 : List Int) : Option ((List Int) × Int × Int) := cond (decide ((a0.length : Int) < 8)) (some ((([] : List Int), 0, 2))) ((cutO a0 0 4).bind fun y3_1 => (haywainref02_Value.f K (cutL a0 ((0 : Int).toNat) ((4 : Int).toNat))).bind fun x3_2 => cond (decide (x3_2 > 4000)) (some ((([] : List Int), 0, 2))) (cond (decide ((IntKind.wrap .i64 x3_2) > (IntKind.wrap .i64 ((a0.length : Int) - 8)))) (some ((([] : List Int), 0, 2))) ((cutO a0 8 (IntKind.wrap .i64 (8 + (IntKind.wrap .i64 x3_2)))).bind fun y6_4 => (haywainref02_Frame.f K (cutL a0 ((8 : Int).toNat) (((IntKind.wrap .i64 (8 + (IntKind.wrap .i64 x3_2))) : Int).toNat))).bind fun x7_1 => (cutO a0 0 (IntKind.wrap .i64 (8 + (IntKind.wrap .i64 x3_2)))).bind fun y7_7 => cond (!((strOfNums x7_1).toList == (strOfNums (cutL a0 ((0 : Int).toNat) (((IntKind.wrap .i64 (8 + (IntKind.wrap .i64 x3_2))) : Int).toNat))).toList)) (some ((([] : List Int), 0, 7))) (some (((cutL a0 ((8 : Int).toNat) (((IntKind.wrap .i64 (8 + (IntKind.wrap .i64 x3_2))) : Int).toNat)), (IntKind.wrap .i64 (8 + (IntKind.wrap .i64 x3_2))), 0))))))
set_option maxRecDepth 100000 in
set_option maxHeartbeats 1000000 in
theorem haywainref02_TakeFrame.con (K : Nat) (a0 : List Int) (h0 : Hd) (r : ((List Int) × Int × Int)) (X : Nat → Nat → Prop) (w : World) (hS : St X w [] [] [] [] [Rd (Kd.int .u8) h0.1 h0.2 a0] w) (H : haywainref02_TakeFrame.f K a0 = some r) :
    Cn Try.prog 37 [.slice h0.1 a0.length h0.2] X w [] (fun i : Hd => .tuple #[.slice i.1 r.1.length i.2, .int .i64 r.2.1, .int .i64 r.2.2]) (fun i => []) (fun i => []) (fun i => [Rd (Kd.int .u8) i.1 i.2 r.1]) := by
 refine Cn.of Try.func37 (by kernel_rfl) hS ?_
 unfold haywainref02_TakeFrame.f at H
 refine J.seq (by kernel_rfl) ?_
 refine J.region (by kernel_rfl) ?_
 refine O.pure 3 [] [0] [] (fr' := [(0, .slice h0.1 a0.length h0.2)]) (bx' := []) (by kernel_rfl) ?_
 refine O.nil (by kernel_rfl) ?_
 refine J.seq (by kernel_rfl) ?_
 refine J.seq (by kernel_rfl) ?_
 refine J.region (by kernel_rfl) ?_
 refine O.pure 3 [] [0, 9] [] (fr' := [(0, .slice h0.1 a0.length h0.2), (9, .bool (decide ((a0.length : Int) < 8)))]) (bx' := []) (by kernel_rfl) ?_
 refine O.nil (by kernel_rfl) ?_
 rcases condE H with ⟨hc1, H⟩ | ⟨hc1, H⟩
 ·refine J.condT (x := .tmp 9) (t := (decide ((a0.length : Int) < 8))) (by kernel_rfl) (by kernel_rfl) hc1 ?_
  refine J.seq (by kernel_rfl) ?_
  refine J.region (by kernel_rfl) ?_
  refine O.pure 3 [] [2, 3, 4] [] (fr' := [(2, .slice none 0 0), (3, .int .i64 0), (4, .int .i64 2)]) (bx' := []) (by kernel_rfl) ?_
  refine O.nil (by kernel_rfl) ?_
  obtain rfl := Option.some.inj H
  refine J.nilF (Kd.int .u8) ?_
  exact J.doneS [] [] [0] [] [] (none, 0) (vs := [.slice none 0 0, .int .i64 0, .int .i64 2]) (by kernel_rfl) (by kernel_rfl) (by kernel_rfl) (by kernel_rfl) (by kernel_rfl) (by decide)
 ·refine J.condF (x := .tmp 9) (t := (decide ((a0.length : Int) < 8))) (by kernel_rfl) (by kernel_rfl) hc1 ?_
  refine J.skip (by kernel_rfl) ?_
  refine J.seq (by kernel_rfl) ?_
  obtain ⟨y3_1, hy3_1, H⟩ := bindE H
  obtain ⟨hy3_1a, hy3_1b, hy3_1c, -⟩ := cutE hy3_1
  obtain ⟨x3_2, hx3_2, H⟩ := bindE H
  refine J.region (by kernel_rfl) ?_
  refine O.pure 1 [] [0, 10] [] (fr' := [(0, .slice h0.1 a0.length h0.2), (10, .slice h0.1 a0.length h0.2)]) (bx' := []) (by kernel_rfl) ?_
  refine O.e (some 11) (Ev.cut (d := (Kd.int .u8)) (xs := a0) (t := 27) (x := .tmp 10) (lo := none) (hi := (some (.const (.int .i64 4)))) (vlo := none) (vhi := (some (.int .i64 4))) (A := h0.1) (c := h0.2) (l := (0 : Int).toNat) (h := (4 : Int).toNat) 0 (by kernel_rfl) (by kernel_rfl) (by kernel_rfl) (by kernel_rfl) (by kernel_rfl) (Bd.dflt _) (Bd.val _ _ _ (by omega)) (by omega) (by omega) rfl) (by kernel_rfl) (fun p3_1 => ?_)
  refine O.e (some 12) (Ev.call0 (xs := [.tmp 11]) [0] (by kernel_rfl) (by kernel_rfl) (fun w hS => haywainref02_Value.con K (cutL a0 ((0 : Int).toNat) ((4 : Int).toNat)) p3_1  _ _ w hS hx3_2)) (by kernel_rfl) (fun _ => ?_)
  refine O.pure 1 [] [0, 5] [] (fr' := [(0, .slice h0.1 a0.length h0.2), (5, .int .u64 x3_2)]) (bx' := []) (by kernel_rfl) ?_
  refine O.nil (by kernel_rfl) ?_
  refine J.seq (by kernel_rfl) ?_
  refine J.seq (by kernel_rfl) ?_
  rcases condE H with ⟨hc2, H⟩ | ⟨hc2, H⟩
  ·refine J.region (by kernel_rfl) ?_
   refine O.pure 1 [] [0, 5, 13] [] (fr' := [(0, .slice h0.1 a0.length h0.2), (5, .int .u64 x3_2), (13, .int .u64 x3_2)]) (bx' := []) (by kernel_rfl) ?_
   refine O.q (v := .bool true) (some 14) (Qu.eqv (u := .bool (decide (x3_2 > 4000))) (v := .bool true) (0, 0) [] (by kernel_rfl) (congrArg Value.bool hc2)) (by kernel_rfl) ?_
   refine O.pure 8 [] [0, 5, 22] [] (fr' := [(0, .slice h0.1 a0.length h0.2), (5, .int .u64 x3_2), (22, .bool true)]) (bx' := []) (by kernel_rfl) ?_
   refine O.nil (by kernel_rfl) ?_
   refine J.cond (o := .tmp 22) true (by kernel_rfl) (by kernel_rfl) ?_
   refine J.seq (by kernel_rfl) ?_
   refine J.region (by kernel_rfl) ?_
   refine O.pure 3 [] [2, 3, 4] [] (fr' := [(2, .slice none 0 0), (3, .int .i64 0), (4, .int .i64 2)]) (bx' := []) (by kernel_rfl) ?_
   refine O.nil (by kernel_rfl) ?_
   obtain rfl := Option.some.inj H
   refine J.nilF (Kd.int .u8) ?_
   exact J.doneS [] [] [0] [] [] (none, 0) (vs := [.slice none 0 0, .int .i64 0, .int .i64 2]) (by kernel_rfl) (by kernel_rfl) (by kernel_rfl) (by kernel_rfl) (by kernel_rfl) (by decide)
  ·refine J.region (by kernel_rfl) ?_
   refine O.pure 1 [] [0, 5, 13] [] (fr' := [(0, .slice h0.1 a0.length h0.2), (5, .int .u64 x3_2), (13, .int .u64 x3_2)]) (bx' := []) (by kernel_rfl) ?_
   refine O.q (v := .bool false) (some 14) (Qu.eqv (u := .bool (decide (x3_2 > 4000))) (v := .bool false) (0, 0) [] (by kernel_rfl) (congrArg Value.bool hc2)) (by kernel_rfl) ?_
   refine O.pure 8 [] [0, 5, 22] [] (fr' := [(0, .slice h0.1 a0.length h0.2), (5, .int .u64 x3_2), (22, .bool (decide ((IntKind.wrap .i64 x3_2) > (IntKind.wrap .i64 ((a0.length : Int) - 8)))))]) (bx' := []) (by kernel_rfl) ?_
   refine O.nil (by kernel_rfl) ?_
   rcases condE H with ⟨hc3, H⟩ | ⟨hc3, H⟩
   ·refine J.condT (x := .tmp 22) (t := (decide ((IntKind.wrap .i64 x3_2) > (IntKind.wrap .i64 ((a0.length : Int) - 8))))) (by kernel_rfl) (by kernel_rfl) hc3 ?_
    refine J.seq (by kernel_rfl) ?_
    refine J.region (by kernel_rfl) ?_
    refine O.pure 3 [] [2, 3, 4] [] (fr' := [(2, .slice none 0 0), (3, .int .i64 0), (4, .int .i64 2)]) (bx' := []) (by kernel_rfl) ?_
    refine O.nil (by kernel_rfl) ?_
    obtain rfl := Option.some.inj H
    refine J.nilF (Kd.int .u8) ?_
    exact J.doneS [] [] [0] [] [] (none, 0) (vs := [.slice none 0 0, .int .i64 0, .int .i64 2]) (by kernel_rfl) (by kernel_rfl) (by kernel_rfl) (by kernel_rfl) (by kernel_rfl) (by decide)
   ·refine J.condF (x := .tmp 22) (t := (decide ((IntKind.wrap .i64 x3_2) > (IntKind.wrap .i64 ((a0.length : Int) - 8))))) (by kernel_rfl) (by kernel_rfl) hc3 ?_
    refine J.skip (by kernel_rfl) ?_
    refine J.seq (by kernel_rfl) ?_
    obtain ⟨y6_4, hy6_4, H⟩ := bindE H
    obtain ⟨hy6_4a, hy6_4b, hy6_4c, -⟩ := cutE hy6_4
    refine J.region (by kernel_rfl) ?_
    refine O.pure 4 [] [0, 5, 23, 26] [] (fr' := [(0, .slice h0.1 a0.length h0.2), (5, .int .u64 x3_2), (23, .slice h0.1 a0.length h0.2), (26, .int .i64 (IntKind.wrap .i64 (8 + (IntKind.wrap .i64 x3_2))))]) (bx' := []) (by kernel_rfl) ?_
    refine O.e (some 27) (Ev.cut (d := (Kd.int .u8)) (xs := a0) (t := 27) (x := .tmp 23) (lo := (some (.const (.int .i64 8)))) (hi := (some (.tmp 26))) (vlo := (some (.int .i64 8))) (vhi := (some (.int .i64 (IntKind.wrap .i64 (8 + (IntKind.wrap .i64 x3_2)))))) (A := h0.1) (c := h0.2) (l := (8 : Int).toNat) (h := ((IntKind.wrap .i64 (8 + (IntKind.wrap .i64 x3_2))) : Int).toNat) 1 (by kernel_rfl) (by kernel_rfl) (by kernel_rfl) (by kernel_rfl) (by kernel_rfl) (Bd.val _ _ _ (by omega)) (Bd.val _ _ _ (by omega)) (by omega) (by omega) rfl) (by kernel_rfl) (fun p6_4 => ?_)
    refine O.pure 1 [] [0, 5, 6] [] (fr' := [(0, .slice h0.1 a0.length h0.2), (5, .int .u64 x3_2), (6, .slice p6_4.1 (cutL a0 ((8 : Int).toNat) (((IntKind.wrap .i64 (8 + (IntKind.wrap .i64 x3_2))) : Int).toNat)).length p6_4.2)]) (bx' := []) (by kernel_rfl) ?_
    refine O.nil (by kernel_rfl) ?_
    refine J.seq (by kernel_rfl) ?_
    refine J.seq (by kernel_rfl) ?_
    obtain ⟨x7_1, hx7_1, H⟩ := bindE H
    obtain ⟨y7_7, hy7_7, H⟩ := bindE H
    obtain ⟨hy7_7a, hy7_7b, hy7_7c, -⟩ := cutE hy7_7
    refine J.cutAt (γ := Hd × Hd) (fun q_ => [(5, .int .u64 x3_2), (6, .slice p6_4.1 (cutL a0 ((8 : Int).toNat) (((IntKind.wrap .i64 (8 + (IntKind.wrap .i64 x3_2))) : Int).toNat)).length p6_4.2), (37, .bool (!((strOfNums x7_1).toList == (strOfNums (cutL a0 ((0 : Int).toNat) (((IntKind.wrap .i64 (8 + (IntKind.wrap .i64 x3_2))) : Int).toNat))).toList)))]) (fun q_ => St X w [] [] [] [] [Rd (Kd.int .u8) q_.2.1 q_.2.2 (cutL a0 ((0 : Int).toNat) (((IntKind.wrap .i64 (8 + (IntKind.wrap .i64 x3_2))) : Int).toNat)), Rd (Kd.int .u8) q_.1.1 q_.1.2 x7_1, Rd (Kd.int .u8) p6_4.1 p6_4.2 (cutL a0 ((8 : Int).toNat) (((IntKind.wrap .i64 (8 + (IntKind.wrap .i64 x3_2))) : Int).toNat)), Rd (Kd.int .u8) p3_1.1 p3_1.2 (cutL a0 ((0 : Int).toNat) ((4 : Int).toNat)), Rd (Kd.int .u8) h0.1 h0.2 a0]) (fun q_ => ?_) (fun hk_ => ?_)
    ·obtain ⟨p7_1, p7_7⟩ := q_
     rcases condE H with ⟨hc4, H⟩ | ⟨hc4, H⟩
     ·refine J.condT (x := .tmp 37) (t := (!((strOfNums x7_1).toList == (strOfNums (cutL a0 ((0 : Int).toNat) (((IntKind.wrap .i64 (8 + (IntKind.wrap .i64 x3_2))) : Int).toNat))).toList))) (by kernel_rfl) (by kernel_rfl) hc4 ?_
      refine J.seq (by kernel_rfl) ?_
      refine J.region (by kernel_rfl) ?_
      refine O.pure 3 [] [2, 3, 4] [] (fr' := [(2, .slice none 0 0), (3, .int .i64 0), (4, .int .i64 7)]) (bx' := []) (by kernel_rfl) ?_
      refine O.nil (by kernel_rfl) ?_
      obtain rfl := Option.some.inj H
      refine J.nilF (Kd.int .u8) ?_
      exact J.doneS [] [] [0] [] [] (none, 0) (vs := [.slice none 0 0, .int .i64 0, .int .i64 7]) (by kernel_rfl) (by kernel_rfl) (by kernel_rfl) (by kernel_rfl) (by kernel_rfl) (by decide)
     ·refine J.condF (x := .tmp 37) (t := (!((strOfNums x7_1).toList == (strOfNums (cutL a0 ((0 : Int).toNat) (((IntKind.wrap .i64 (8 + (IntKind.wrap .i64 x3_2))) : Int).toNat))).toList))) (by kernel_rfl) (by kernel_rfl) hc4 ?_
      refine J.skip (by kernel_rfl) ?_
      refine J.seq (by kernel_rfl) ?_
      refine J.region (by kernel_rfl) ?_
      refine O.pure 7 [] [2, 3, 4] [] (fr' := [(2, .slice p6_4.1 (cutL a0 ((8 : Int).toNat) (((IntKind.wrap .i64 (8 + (IntKind.wrap .i64 x3_2))) : Int).toNat)).length p6_4.2), (3, .int .i64 (IntKind.wrap .i64 (8 + (IntKind.wrap .i64 x3_2)))), (4, .int .i64 0)]) (bx' := []) (by kernel_rfl) ?_
      refine O.nil (by kernel_rfl) ?_
      obtain rfl := Option.some.inj H
      exact J.doneS [] [] [2] [] [] p6_4 (vs := [.slice p6_4.1 (cutL a0 ((8 : Int).toNat) (((IntKind.wrap .i64 (8 + (IntKind.wrap .i64 x3_2))) : Int).toNat)).length p6_4.2, .int .i64 (IntKind.wrap .i64 (8 + (IntKind.wrap .i64 x3_2))), .int .i64 0]) (by kernel_rfl) (by kernel_rfl) (by kernel_rfl) (by kernel_rfl) (by kernel_rfl) (by decide)
    ·refine J.drawS (by kernel_rfl) [(0, some 28, .slice p6_4.1 (cutL a0 ((8 : Int).toNat) (((IntKind.wrap .i64 (8 + (IntKind.wrap .i64 x3_2))) : Int).toNat)).length p6_4.2), (3, some 31, .slice h0.1 a0.length h0.2), (4, some 32, .int .u64 x3_2), (5, some 33, .int .i64 (IntKind.wrap .i64 x3_2)), (6, some 34, .int .i64 (IntKind.wrap .i64 (8 + (IntKind.wrap .i64 x3_2))))] ([0, 3, 4, 5, 6] ++ []) (by kernel_rfl) ?_
     refine D.mid (cs := [1, 7]) [0, 3, 4, 5, 6] [] [] [] (by kernel_rfl) (by kernel_rfl) trivial (by kernel_rfl) ⟨?_, ?_, trivial⟩
     ·refine EvStep.mk (some 29) (new := fun p7_1 => [(2, some 30, .string (strOfNums x7_1))]) ([3, 4, 5, 6] ++ [2]) (by kernel_rfl) (Ev.call0 (xs := [.tmp 28]) [0] (by kernel_rfl) (by kernel_rfl) (fun w hS => haywainref02_Frame.con K (cutL a0 ((8 : Int).toNat) (((IntKind.wrap .i64 (8 + (IntKind.wrap .i64 x3_2))) : Int).toNat)) p6_4  _ _ w hS hx7_1)) (fun p7_1 => by kernel_rfl) (fun p7_1 => ?_)
      refine D.mono (fun w hS => hS.freezeH (h := p7_1) (xs := x7_1)) ?_
      refine D.mid (cs := [7]) [3, 4, 5, 6] [2] [] [] (by kernel_rfl) (by kernel_rfl) (⟨QuAt.mk (v := .string (strOfNums x7_1)) (some 30) (by kernel_rfl) (by kernel_rfl) (Qu.str (t := 27) (u := 9) (x := .tmp 29) (h := p7_1) (xs := x7_1) 0 (by kernel_rfl) (by kernel_rfl) (by kernel_rfl) (by kernel_rfl) rfl), trivial⟩) (by kernel_rfl) ⟨?_, trivial⟩
      refine EvStep.mk (some 35) (new := fun p7_7 => [(8, some 36, .string (strOfNums (cutL a0 ((0 : Int).toNat) (((IntKind.wrap .i64 (8 + (IntKind.wrap .i64 x3_2))) : Int).toNat)))), (9, some 37, .bool (!((strOfNums x7_1).toList == (strOfNums (cutL a0 ((0 : Int).toNat) (((IntKind.wrap .i64 (8 + (IntKind.wrap .i64 x3_2))) : Int).toNat))).toList)))]) ([4, 5, 9] ++ [2, 8]) (by kernel_rfl) (Ev.cut (d := (Kd.int .u8)) (xs := a0) (t := 27) (x := .tmp 31) (lo := none) (hi := (some (.tmp 34))) (vlo := none) (vhi := (some (.int .i64 (IntKind.wrap .i64 (8 + (IntKind.wrap .i64 x3_2)))))) (A := h0.1) (c := h0.2) (l := (0 : Int).toNat) (h := ((IntKind.wrap .i64 (8 + (IntKind.wrap .i64 x3_2))) : Int).toNat) 3 (by kernel_rfl) (by kernel_rfl) (by kernel_rfl) (by kernel_rfl) (by kernel_rfl) (Bd.dflt _) (Bd.val _ _ _ (by omega)) (by omega) (by omega) rfl) (fun p7_7 => by kernel_rfl) (fun p7_7 => ?_)
      refine D.fin (fr' := [(5, .int .u64 x3_2), (6, .slice p6_4.1 (cutL a0 ((8 : Int).toNat) (((IntKind.wrap .i64 (8 + (IntKind.wrap .i64 x3_2))) : Int).toNat)).length p6_4.2), (37, .bool (!((strOfNums x7_1).toList == (strOfNums (cutL a0 ((0 : Int).toNat) (((IntKind.wrap .i64 (8 + (IntKind.wrap .i64 x3_2))) : Int).toNat))).toList)))]) [4, 5, 9] [2, 8] [] [] [5, 6, 37] (by kernel_rfl) (by kernel_rfl) (⟨QuAt.mk (v := .string (strOfNums x7_1)) (some 30) (by kernel_rfl) (by kernel_rfl) (Qu.str (t := 27) (u := 9) (x := .tmp 29) (h := p7_1) (xs := x7_1) 1 (by kernel_rfl) (by kernel_rfl) (by kernel_rfl) (by kernel_rfl) rfl), QuAt.mk (v := .string (strOfNums (cutL a0 ((0 : Int).toNat) (((IntKind.wrap .i64 (8 + (IntKind.wrap .i64 x3_2))) : Int).toNat)))) (some 36) (by kernel_rfl) (by kernel_rfl) (Qu.str (t := 27) (u := 9) (x := .tmp 35) (h := p7_7) (xs := (cutL a0 ((0 : Int).toNat) (((IntKind.wrap .i64 (8 + (IntKind.wrap .i64 x3_2))) : Int).toNat))) 0 (by kernel_rfl) (by kernel_rfl) (by kernel_rfl) (by kernel_rfl) rfl), trivial⟩) (by kernel_rfl) ?_
      exact J.conv2 [5, 6, 37] [0, 1, 2, 3, 4] [] [] (by kernel_rfl) (by kernel_rfl) (by kernel_rfl) (by kernel_rfl) (by decide) (hk_ (p7_1, p7_7))
     ·refine EvStep.mk (some 35) (new := fun p7_7 => [(8, some 36, .string (strOfNums (cutL a0 ((0 : Int).toNat) (((IntKind.wrap .i64 (8 + (IntKind.wrap .i64 x3_2))) : Int).toNat))))]) ([0, 4, 5] ++ [8]) (by kernel_rfl) (Ev.cut (d := (Kd.int .u8)) (xs := a0) (t := 27) (x := .tmp 31) (lo := none) (hi := (some (.tmp 34))) (vlo := none) (vhi := (some (.int .i64 (IntKind.wrap .i64 (8 + (IntKind.wrap .i64 x3_2)))))) (A := h0.1) (c := h0.2) (l := (0 : Int).toNat) (h := ((IntKind.wrap .i64 (8 + (IntKind.wrap .i64 x3_2))) : Int).toNat) 2 (by kernel_rfl) (by kernel_rfl) (by kernel_rfl) (by kernel_rfl) (by kernel_rfl) (Bd.dflt _) (Bd.val _ _ _ (by omega)) (by omega) (by omega) rfl) (fun p7_7 => by kernel_rfl) (fun p7_7 => ?_)
      refine D.mid (cs := [1]) [0, 4, 5] [8] [] [] (by kernel_rfl) (by kernel_rfl) (⟨QuAt.mk (v := .string (strOfNums (cutL a0 ((0 : Int).toNat) (((IntKind.wrap .i64 (8 + (IntKind.wrap .i64 x3_2))) : Int).toNat)))) (some 36) (by kernel_rfl) (by kernel_rfl) (Qu.str (t := 27) (u := 9) (x := .tmp 35) (h := p7_7) (xs := (cutL a0 ((0 : Int).toNat) (((IntKind.wrap .i64 (8 + (IntKind.wrap .i64 x3_2))) : Int).toNat))) 0 (by kernel_rfl) (by kernel_rfl) (by kernel_rfl) (by kernel_rfl) rfl), trivial⟩) (by kernel_rfl) ⟨?_, trivial⟩
      refine EvStep.mk (some 29) (new := fun p7_1 => [(2, some 30, .string (strOfNums x7_1)), (9, some 37, .bool (!((strOfNums x7_1).toList == (strOfNums (cutL a0 ((0 : Int).toNat) (((IntKind.wrap .i64 (8 + (IntKind.wrap .i64 x3_2))) : Int).toNat))).toList)))]) ([4, 5, 9] ++ [8, 2]) (by kernel_rfl) (Ev.call0 (xs := [.tmp 28]) [1] (by kernel_rfl) (by kernel_rfl) (fun w hS => haywainref02_Frame.con K (cutL a0 ((8 : Int).toNat) (((IntKind.wrap .i64 (8 + (IntKind.wrap .i64 x3_2))) : Int).toNat)) p6_4  _ _ w hS hx7_1)) (fun p7_1 => by kernel_rfl) (fun p7_1 => ?_)
      refine D.mono (fun w hS => hS.freezeH (h := p7_1) (xs := x7_1)) ?_
      refine D.fin (fr' := [(5, .int .u64 x3_2), (6, .slice p6_4.1 (cutL a0 ((8 : Int).toNat) (((IntKind.wrap .i64 (8 + (IntKind.wrap .i64 x3_2))) : Int).toNat)).length p6_4.2), (37, .bool (!((strOfNums x7_1).toList == (strOfNums (cutL a0 ((0 : Int).toNat) (((IntKind.wrap .i64 (8 + (IntKind.wrap .i64 x3_2))) : Int).toNat))).toList)))]) [4, 5, 9] [8, 2] [] [] [5, 6, 37] (by kernel_rfl) (by kernel_rfl) (⟨QuAt.mk (v := .string (strOfNums (cutL a0 ((0 : Int).toNat) (((IntKind.wrap .i64 (8 + (IntKind.wrap .i64 x3_2))) : Int).toNat)))) (some 36) (by kernel_rfl) (by kernel_rfl) (Qu.str (t := 27) (u := 9) (x := .tmp 35) (h := p7_7) (xs := (cutL a0 ((0 : Int).toNat) (((IntKind.wrap .i64 (8 + (IntKind.wrap .i64 x3_2))) : Int).toNat))) 1 (by kernel_rfl) (by kernel_rfl) (by kernel_rfl) (by kernel_rfl) rfl), QuAt.mk (v := .string (strOfNums x7_1)) (some 30) (by kernel_rfl) (by kernel_rfl) (Qu.str (t := 27) (u := 9) (x := .tmp 29) (h := p7_1) (xs := x7_1) 0 (by kernel_rfl) (by kernel_rfl) (by kernel_rfl) (by kernel_rfl) rfl), trivial⟩) (by kernel_rfl) ?_
      exact J.conv2 [5, 6, 37] [1, 0, 2, 3, 4] [] [] (by kernel_rfl) (by kernel_rfl) (by kernel_rfl) (by kernel_rfl) (by decide) (hk_ (p7_1, p7_7))
/-! ### haywain/haywainref02.TakeNum: function 61 -/
def haywainref02_TakeNum.f (K : Nat) (a0 : List Int) : Option (Int × Bool) := cond (decide ((a0.length : Int) < 8)) (some ((0, false))) ((cutO a0 0 8).bind fun y3_1 => (haywainref02_Value.f K (cutL a0 ((0 : Int).toNat) ((8 : Int).toNat))).bind fun x3_2 => some (((IntKind.wrap .i64 x3_2), true)))
set_option maxRecDepth 100000 in
set_option maxHeartbeats 1000000 in
theorem haywainref02_TakeNum.con (K : Nat) (a0 : List Int) (h0 : Hd) (r : (Int × Bool)) (X : Nat → Nat → Prop) (w : World) (hS : St X w [] [] [] [] [Rd (Kd.int .u8) h0.1 h0.2 a0] w) (H : haywainref02_TakeNum.f K a0 = some r) :
    Cn Try.prog 61 [.slice h0.1 a0.length h0.2] X w [] (fun i : Unit => .tuple #[.int .i64 r.1, .bool r.2]) (fun i => []) (fun i => []) (fun i => []) := by
 refine Cn.of Try.func61 (by kernel_rfl) hS ?_
 unfold haywainref02_TakeNum.f at H
 refine J.seq (by kernel_rfl) ?_
 refine J.region (by kernel_rfl) ?_
 refine O.pure 2 [] [0] [] (fr' := [(0, .slice h0.1 a0.length h0.2)]) (bx' := []) (by kernel_rfl) ?_
 refine O.nil (by kernel_rfl) ?_
 refine J.seq (by kernel_rfl) ?_
 refine J.seq (by kernel_rfl) ?_
 refine J.region (by kernel_rfl) ?_
 refine O.pure 3 [] [0, 6] [] (fr' := [(0, .slice h0.1 a0.length h0.2), (6, .bool (decide ((a0.length : Int) < 8)))]) (bx' := []) (by kernel_rfl) ?_
 refine O.nil (by kernel_rfl) ?_
 rcases condE H with ⟨hc1, H⟩ | ⟨hc1, H⟩
 ·refine J.condT (x := .tmp 6) (t := (decide ((a0.length : Int) < 8))) (by kernel_rfl) (by kernel_rfl) hc1 ?_
  refine J.seq (by kernel_rfl) ?_
  refine J.region (by kernel_rfl) ?_
  refine O.pure 2 [] [2, 3] [] (fr' := [(2, .int .i64 0), (3, .bool false)]) (bx' := []) (by kernel_rfl) ?_
  refine O.nil (by kernel_rfl) ?_
  obtain rfl := Option.some.inj H
  exact J.doneS [] [] [] [] [] () (vs := [.int .i64 0, .bool false]) (by kernel_rfl) (by kernel_rfl) (by kernel_rfl) (by kernel_rfl) (by kernel_rfl) (by decide)
 ·refine J.condF (x := .tmp 6) (t := (decide ((a0.length : Int) < 8))) (by kernel_rfl) (by kernel_rfl) hc1 ?_
  refine J.skip (by kernel_rfl) ?_
  refine J.seq (by kernel_rfl) ?_
  obtain ⟨y3_1, hy3_1, H⟩ := bindE H
  obtain ⟨hy3_1a, hy3_1b, hy3_1c, -⟩ := cutE hy3_1
  obtain ⟨x3_2, hx3_2, H⟩ := bindE H
  refine J.region (by kernel_rfl) ?_
  refine O.pure 1 [] [7] [] (fr' := [(7, .slice h0.1 a0.length h0.2)]) (bx' := []) (by kernel_rfl) ?_
  refine O.e (some 8) (Ev.cut (d := (Kd.int .u8)) (xs := a0) (t := 27) (x := .tmp 7) (lo := none) (hi := (some (.const (.int .i64 8)))) (vlo := none) (vhi := (some (.int .i64 8))) (A := h0.1) (c := h0.2) (l := (0 : Int).toNat) (h := (8 : Int).toNat) 0 (by kernel_rfl) (by kernel_rfl) (by kernel_rfl) (by kernel_rfl) (by kernel_rfl) (Bd.dflt _) (Bd.val _ _ _ (by omega)) (by omega) (by omega) rfl) (by kernel_rfl) (fun p3_1 => ?_)
  refine O.e (some 9) (Ev.call0 (xs := [.tmp 8]) [0] (by kernel_rfl) (by kernel_rfl) (fun w hS => haywainref02_Value.con K (cutL a0 ((0 : Int).toNat) ((8 : Int).toNat)) p3_1  _ _ w hS hx3_2)) (by kernel_rfl) (fun _ => ?_)
  refine O.pure 3 [] [2, 3] [] (fr' := [(2, .int .i64 (IntKind.wrap .i64 x3_2)), (3, .bool true)]) (bx' := []) (by kernel_rfl) ?_
  refine O.nil (by kernel_rfl) ?_
  obtain rfl := Option.some.inj H
  exact J.doneS [] [] [] [] [] () (vs := [.int .i64 (IntKind.wrap .i64 x3_2), .bool true]) (by kernel_rfl) (by kernel_rfl) (by kernel_rfl) (by kernel_rfl) (by kernel_rfl) (by decide)
/-! ### haywain/haywainref14.List: function 34 -/
def haywainref14_List.l1 (K : Nat) (x1_2 : List Int) : Nat → ((List Int) × Int) → Option S79
  | 0, _ => none
  | k + 1, s1 => cond (decide (s1.2 < (x1_2.length : Int))) ((cutO x1_2 s1.2 (x1_2.length : Int)).bind fun y4_3 => (haywainref02_TakeFrame.f K (cutL x1_2 ((s1.2 : Int).toNat) (((x1_2.length : Int) : Int).toNat))).bind fun x4_4 => cond (x4_4.2.2 != 0) (some ((⟨s1.1, s1.2, true, (x4_4.2.2 == 2)⟩ : S79))) ((haywainref02_TakeNum.f K x4_4.1).bind fun x9_1 => cond (!x9_1.2) (some ((⟨s1.1, s1.2, false, false⟩ : S79))) (cond ((x4_4.1.length : Int) != 8) (some ((⟨s1.1, s1.2, false, false⟩ : S79))) (cond (decide (x9_1.1 < 1)) (some ((⟨s1.1, s1.2, false, false⟩ : S79))) (cond (decide (x9_1.1 > 1099511627776)) (some ((⟨s1.1, s1.2, false, false⟩ : S79))) (cond (decide ((s1.1.length : Int) > 0)) ((idxO s1.1 (IntKind.wrap .i64 ((s1.1.length : Int) - 1))).bind fun x10_27 => cond (decide (x10_27 ≥ x9_1.1)) (some ((⟨s1.1, s1.2, false, false⟩ : S79))) ((appO 8 s1.1 ([x9_1.1] : List Int)).bind fun y13_4 => haywainref14_List.l1 K x1_2 k ((s1.1 ++ ([x9_1.1] : List Int)), (IntKind.wrap .i64 (s1.2 + x4_4.2.1))))) ((appO 8 s1.1 ([x9_1.1] : List Int)).bind fun y13_4 => haywainref14_List.l1 K x1_2 k ((s1.1 ++ ([x9_1.1] : List Int)), (IntKind.wrap .i64 (s1.2 + x4_4.2.1)))))))))) (some ((⟨s1.1, s1.2, false, true⟩ : S79)))
def haywainref14_List.f (K : Nat) (a0 : List S85) : Option S79 := (haywainref13_Good.f K a0).bind fun x1_1 => (haywainref13_Get.f K x1_1 (⟨#[109]⟩ : ByteArray)).bind fun x1_2 => haywainref14_List.l1 K x1_2 K (([] : List Int), 0)
set_option maxRecDepth 100000 in
set_option maxHeartbeats 1000000 in
theorem haywainref14_List.con (K : Nat) (a0 : List S85) (h0 : Hd) (r : S79) (X : Nat → Nat → Prop) (w : World) (hS : St X w [] [] [] [] [Rd kd85 h0.1 h0.2 a0] w) (H : haywainref14_List.f K a0 = some r) :
    Cn Try.prog 34 [.slice h0.1 a0.length h0.2] X w [] (fun i : Hd => .agg #[.slice i.1 r.f0.length i.2, .int .i64 r.f1, .bool r.f2, .bool r.f3]) (fun i => []) (fun i => [mkRow (Kd.int .i64) 3 (.slice i.1 r.f0.length i.2) r.f0]) (fun i => []) := by
 refine Cn.of Try.func34 (by kernel_rfl) hS ?_
 unfold haywainref14_List.f at H
 refine J.seq (by kernel_rfl) ?_
 refine J.region (by kernel_rfl) ?_
 refine O.e (some 2) (Ev.alloc (t := 79) (z := .agg #[.slice none 0 0, .int .i64 0, .bool false, .bool false]) (by kernel_rfl) (by kernel_rfl)) (by kernel_rfl) (fun p0_0 => ?_)
 refine O.nil (by kernel_rfl) ?_
 refine J.seq (by kernel_rfl) ?_
 obtain ⟨x1_1, hx1_1, H⟩ := bindE H
 obtain ⟨x1_2, hx1_2, H⟩ := bindE H
 refine J.region (by kernel_rfl) ?_
 refine O.pure 1 [] [2, 10] [] (fr' := [(2, .pointer (some ⟨p0_0, 0, none⟩)), (10, .slice h0.1 a0.length h0.2)]) (bx' := [⟨p0_0, [.slice none 0 0, .int .i64 0, .bool false, .bool false], 79⟩]) (by kernel_rfl) ?_
 refine O.e (some 11) (Ev.call0 (xs := [.tmp 10]) [0] (by kernel_rfl) (by kernel_rfl) (fun w hS => haywainref13_Good.con K a0 h0  _ _ w hS hx1_1)) (by kernel_rfl) (fun p1_1 => ?_)
 refine O.e (some 12) (Ev.call0 (xs := [.tmp 11, .const (.string (⟨#[109]⟩ : ByteArray))]) [0] (by kernel_rfl) (by kernel_rfl) (fun w hS => haywainref13_Get.con K x1_1 (⟨#[109]⟩ : ByteArray) p1_1  _ _ w hS hx1_2)) (by kernel_rfl) (fun p1_2 => ?_)
 refine O.pure 1 [] [2, 3] [] (fr' := [(2, .pointer (some ⟨p0_0, 0, none⟩)), (3, .slice p1_2.1 x1_2.length p1_2.2)]) (bx' := [⟨p0_0, [.slice none 0 0, .int .i64 0, .bool false, .bool false], 79⟩]) (by kernel_rfl) ?_
 refine O.nil (by kernel_rfl) ?_
 refine J.seq (by kernel_rfl) ?_
 refine J.region (by kernel_rfl) ?_
 refine O.pure 1 [] [2, 3, 13] [] (fr' := [(2, .pointer (some ⟨p0_0, 0, none⟩)), (3, .slice p1_2.1 x1_2.length p1_2.2), (13, .agg #[.slice none 0 0, .int .i64 0, .bool false, .bool true])]) (bx' := [⟨p0_0, [.slice none 0 0, .int .i64 0, .bool false, .bool false], 79⟩]) (by kernel_rfl) ?_
 refine O.e (some 4) (Ev.alloc (t := 79) (z := .agg #[.slice none 0 0, .int .i64 0, .bool false, .bool false]) (by kernel_rfl) (by kernel_rfl)) (by kernel_rfl) (fun p2_1 => ?_)
 refine O.pure 1 [(0, 0)] [2, 3, 4] [p2_1, 0] (fr' := [(2, .pointer (some ⟨p0_0, 0, none⟩)), (3, .slice p1_2.1 x1_2.length p1_2.2), (4, .pointer (some ⟨p2_1, 0, none⟩))]) (bx' := [⟨p2_1, [.slice none 0 0, .int .i64 0, .bool false, .bool true], 79⟩, ⟨p0_0, [.slice none 0 0, .int .i64 0, .bool false, .bool false], 79⟩]) (by kernel_rfl) ?_
 refine O.nil (by kernel_rfl) ?_
 refine J.seq (by kernel_rfl) ?_
 refine J.block (id := 0) (by kernel_rfl) ?_
 refine J.loopI (σ := (List Int) × Int) (γ := Hd) (f := fun m_ s_ => haywainref14_List.l1 K x1_2 m_ s_) (fun s1 g1 => [(2, .pointer (some ⟨p0_0, 0, none⟩)), (3, .slice p1_2.1 x1_2.length p1_2.2), (4, .pointer (some ⟨p2_1, 0, none⟩))]) (fun s1 g1 => St X w [] [⟨p2_1, [.slice g1.1 s1.1.length g1.2, .int .i64 s1.2, .bool false, .bool true], 79⟩, ⟨p0_0, [.slice none 0 0, .int .i64 0, .bool false, .bool false], 79⟩] [mkRow (Kd.int .i64) 3 (.slice g1.1 s1.1.length g1.2) s1.1] [] [Rd (Kd.int .u8) p1_2.1 p1_2.2 x1_2, Rd kd85 h0.1 h0.2 a0]) K (([] : List Int), 0) (none, 0) (by kernel_rfl) H (fun _ => rfl) (fun m_ s1 H ih1 g1 => ?_) (fun h_ => ?_)
 ·unfold haywainref14_List.l1 at H
  refine J.seq (by kernel_rfl) ?_
  refine J.seq (by kernel_rfl) ?_
  refine J.region (by kernel_rfl) ?_
  refine O.pure 5 [(0, 1)] [2, 3, 4, 18] [p2_1, 1] (fr' := [(2, .pointer (some ⟨p0_0, 0, none⟩)), (3, .slice p1_2.1 x1_2.length p1_2.2), (4, .pointer (some ⟨p2_1, 0, none⟩)), (18, .bool (decide (s1.2 < (x1_2.length : Int))))]) (bx' := [⟨p2_1, [.slice g1.1 s1.1.length g1.2, .int .i64 s1.2, .bool false, .bool true], 79⟩, ⟨p0_0, [.slice none 0 0, .int .i64 0, .bool false, .bool false], 79⟩]) (by kernel_rfl) ?_
  refine O.nil (by kernel_rfl) ?_
  rcases condE H with ⟨hc16, H⟩ | ⟨hc16, H⟩
  ·refine J.condT (x := .tmp 18) (t := (decide (s1.2 < (x1_2.length : Int)))) (by kernel_rfl) (by kernel_rfl) hc16 ?_
   refine J.skip (by kernel_rfl) ?_
   refine J.block (id := 1) (by kernel_rfl) ?_
   refine J.seq (by kernel_rfl) ?_
   obtain ⟨y4_3, hy4_3, H⟩ := bindE H
   obtain ⟨hy4_3a, hy4_3b, hy4_3c, -⟩ := cutE hy4_3
   obtain ⟨x4_4, hx4_4, H⟩ := bindE H
   refine J.region (by kernel_rfl) ?_
   refine O.pure 3 [(0, 1)] [2, 3, 4, 20, 22] [p2_1, 1] (fr' := [(2, .pointer (some ⟨p0_0, 0, none⟩)), (3, .slice p1_2.1 x1_2.length p1_2.2), (4, .pointer (some ⟨p2_1, 0, none⟩)), (20, .slice p1_2.1 x1_2.length p1_2.2), (22, .int .i64 s1.2)]) (bx' := [⟨p2_1, [.slice g1.1 s1.1.length g1.2, .int .i64 s1.2, .bool false, .bool true], 79⟩, ⟨p0_0, [.slice none 0 0, .int .i64 0, .bool false, .bool false], 79⟩]) (by kernel_rfl) ?_
   refine O.e (some 23) (Ev.cut (d := (Kd.int .u8)) (xs := x1_2) (t := 27) (x := .tmp 20) (lo := (some (.tmp 22))) (hi := none) (vlo := (some (.int .i64 s1.2))) (vhi := none) (A := p1_2.1) (c := p1_2.2) (l := (s1.2 : Int).toNat) (h := ((x1_2.length : Int) : Int).toNat) 0 (by kernel_rfl) (by kernel_rfl) (by kernel_rfl) (by kernel_rfl) (by kernel_rfl) (Bd.val _ _ _ (by omega)) (Bd.dflt _) (by omega) (by omega) rfl) (by kernel_rfl) (fun p4_3 => ?_)
   refine O.e (some 24) (Ev.call0 (xs := [.tmp 23]) [0] (by kernel_rfl) (by kernel_rfl) (fun w hS => haywainref02_TakeFrame.con K (cutL x1_2 ((s1.2 : Int).toNat) (((x1_2.length : Int) : Int).toNat)) p4_3  _ _ w hS hx4_4)) (by kernel_rfl) (fun p4_4 => ?_)
   refine O.pure 7 [] [2, 3, 4, 5, 6, 7] [] (fr' := [(2, .pointer (some ⟨p0_0, 0, none⟩)), (3, .slice p1_2.1 x1_2.length p1_2.2), (4, .pointer (some ⟨p2_1, 0, none⟩)), (5, .slice p4_4.1 x4_4.1.length p4_4.2), (6, .int .i64 x4_4.2.1), (7, .int .i64 x4_4.2.2)]) (bx' := [⟨p2_1, [.slice g1.1 s1.1.length g1.2, .int .i64 s1.2, .bool false, .bool true], 79⟩, ⟨p0_0, [.slice none 0 0, .int .i64 0, .bool false, .bool false], 79⟩]) (by kernel_rfl) ?_
   refine O.nil (by kernel_rfl) ?_
   refine J.seq (by kernel_rfl) ?_
   refine J.seq (by kernel_rfl) ?_
   refine J.region (by kernel_rfl) ?_
   refine O.pure 2 [] [2, 3, 4, 5, 6, 7, 29] [] (fr' := [(2, .pointer (some ⟨p0_0, 0, none⟩)), (3, .slice p1_2.1 x1_2.length p1_2.2), (4, .pointer (some ⟨p2_1, 0, none⟩)), (5, .slice p4_4.1 x4_4.1.length p4_4.2), (6, .int .i64 x4_4.2.1), (7, .int .i64 x4_4.2.2), (29, .bool (x4_4.2.2 != 0))]) (bx' := [⟨p2_1, [.slice g1.1 s1.1.length g1.2, .int .i64 s1.2, .bool false, .bool true], 79⟩, ⟨p0_0, [.slice none 0 0, .int .i64 0, .bool false, .bool false], 79⟩]) (by kernel_rfl) ?_
   refine O.nil (by kernel_rfl) ?_
   rcases condE H with ⟨hc17, H⟩ | ⟨hc17, H⟩
   ·refine J.condT (x := .tmp 29) (t := (x4_4.2.2 != 0)) (by kernel_rfl) (by kernel_rfl) hc17 ?_
    refine J.seq (by kernel_rfl) ?_
    refine J.region (by kernel_rfl) ?_
    refine O.pure 2 [(0, 2)] [2, 4, 7] [p2_1, 2] (fr' := [(2, .pointer (some ⟨p0_0, 0, none⟩)), (4, .pointer (some ⟨p2_1, 0, none⟩)), (7, .int .i64 x4_4.2.2)]) (bx' := [⟨p2_1, [.slice g1.1 s1.1.length g1.2, .int .i64 s1.2, .bool true, .bool true], 79⟩, ⟨p0_0, [.slice none 0 0, .int .i64 0, .bool false, .bool false], 79⟩]) (by kernel_rfl) ?_
    refine O.nil (by kernel_rfl) ?_
    refine J.seq (by kernel_rfl) ?_
    refine J.region (by kernel_rfl) ?_
    refine O.pure 8 [(0, 3), (0, 3)] [2, 4] [p2_1, 3, p2_1, 3] (fr' := [(2, .pointer (some ⟨p0_0, 0, none⟩)), (4, .pointer (some ⟨p2_1, 0, none⟩))]) (bx' := [⟨p2_1, [.slice g1.1 s1.1.length g1.2, .int .i64 s1.2, .bool true, .bool (x4_4.2.2 == 2)], 79⟩, ⟨p0_0, [.slice none 0 0, .int .i64 0, .bool false, .bool false], 79⟩]) (by kernel_rfl) ?_
    refine O.nil (by kernel_rfl) ?_
    refine J.seq (by kernel_rfl) ?_
    refine J.region (by kernel_rfl) ?_
    refine O.pure 2 [(0, 0), (1, 0)] [2] [p2_1, 0, p0_0, 0] (fr' := [(2, .pointer (some ⟨p0_0, 0, none⟩))]) (bx' := [⟨p2_1, [.slice g1.1 s1.1.length g1.2, .int .i64 s1.2, .bool true, .bool (x4_4.2.2 == 2)], 79⟩, ⟨p0_0, [.slice g1.1 s1.1.length g1.2, .int .i64 s1.2, .bool true, .bool (x4_4.2.2 == 2)], 79⟩]) (by kernel_rfl) ?_
    refine O.nil (by kernel_rfl) ?_
    obtain rfl := Option.some.inj H
    exact J.doneS [(1, 0)] [p0_0, 0] [] [] [0] g1 (vs := [.agg #[.slice g1.1 s1.1.length g1.2, .int .i64 s1.2, .bool true, .bool (x4_4.2.2 == 2)]]) (by kernel_rfl) (by kernel_rfl) (by kernel_rfl) (by kernel_rfl) (by kernel_rfl) (by decide)
   ·refine J.condF (x := .tmp 29) (t := (x4_4.2.2 != 0)) (by kernel_rfl) (by kernel_rfl) hc17 ?_
    refine J.skip (by kernel_rfl) ?_
    refine J.seq (by kernel_rfl) ?_
    obtain ⟨x9_1, hx9_1, H⟩ := bindE H
    refine J.region (by kernel_rfl) ?_
    refine O.pure 1 [] [2, 3, 4, 5, 6, 40] [] (fr' := [(2, .pointer (some ⟨p0_0, 0, none⟩)), (3, .slice p1_2.1 x1_2.length p1_2.2), (4, .pointer (some ⟨p2_1, 0, none⟩)), (5, .slice p4_4.1 x4_4.1.length p4_4.2), (6, .int .i64 x4_4.2.1), (40, .slice p4_4.1 x4_4.1.length p4_4.2)]) (bx' := [⟨p2_1, [.slice g1.1 s1.1.length g1.2, .int .i64 s1.2, .bool false, .bool true], 79⟩, ⟨p0_0, [.slice none 0 0, .int .i64 0, .bool false, .bool false], 79⟩]) (by kernel_rfl) ?_
    refine O.e (some 41) (Ev.call0 (xs := [.tmp 40]) [0] (by kernel_rfl) (by kernel_rfl) (fun w hS => haywainref02_TakeNum.con K x4_4.1 p4_4  _ _ w hS hx9_1)) (by kernel_rfl) (fun _ => ?_)
    refine O.pure 5 [] [2, 3, 4, 5, 6, 8, 9] [] (fr' := [(2, .pointer (some ⟨p0_0, 0, none⟩)), (3, .slice p1_2.1 x1_2.length p1_2.2), (4, .pointer (some ⟨p2_1, 0, none⟩)), (5, .slice p4_4.1 x4_4.1.length p4_4.2), (6, .int .i64 x4_4.2.1), (8, .int .i64 x9_1.1), (9, .bool x9_1.2)]) (bx' := [⟨p2_1, [.slice g1.1 s1.1.length g1.2, .int .i64 s1.2, .bool false, .bool true], 79⟩, ⟨p0_0, [.slice none 0 0, .int .i64 0, .bool false, .bool false], 79⟩]) (by kernel_rfl) ?_
    refine O.nil (by kernel_rfl) ?_
    refine J.seq (by kernel_rfl) ?_
    refine J.seq (by kernel_rfl) ?_
    rcases condE H with ⟨hc18, H⟩ | ⟨hc18, H⟩
    ·refine J.region (by kernel_rfl) ?_
     refine O.pure 1 [] [2, 3, 4, 5, 6, 8, 44] [] (fr' := [(2, .pointer (some ⟨p0_0, 0, none⟩)), (3, .slice p1_2.1 x1_2.length p1_2.2), (4, .pointer (some ⟨p2_1, 0, none⟩)), (5, .slice p4_4.1 x4_4.1.length p4_4.2), (6, .int .i64 x4_4.2.1), (8, .int .i64 x9_1.1), (44, .bool x9_1.2)]) (bx' := [⟨p2_1, [.slice g1.1 s1.1.length g1.2, .int .i64 s1.2, .bool false, .bool true], 79⟩, ⟨p0_0, [.slice none 0 0, .int .i64 0, .bool false, .bool false], 79⟩]) (by kernel_rfl) ?_
     refine O.q (v := .bool true) (some 45) (Qu.eqv (u := .bool (!x9_1.2)) (v := .bool true) (0, 0) [] (by kernel_rfl) (congrArg Value.bool hc18)) (by kernel_rfl) ?_
     refine O.pure 31 [] [2, 3, 4, 6, 8, 47, 48, 49, 52, 53, 56, 57, 60, 61, 62, 63, 64, 65, 66, 67, 68, 69, 70, 71, 72, 73, 74, 75, 76] [] (fr' := [(2, .pointer (some ⟨p0_0, 0, none⟩)), (3, .slice p1_2.1 x1_2.length p1_2.2), (4, .pointer (some ⟨p2_1, 0, none⟩)), (6, .int .i64 x4_4.2.1), (8, .int .i64 x9_1.1), (47, undef), (48, undef), (49, undef), (52, undef), (53, undef), (56, undef), (57, undef), (60, undef), (61, undef), (62, undef), (63, undef), (64, undef), (65, undef), (66, undef), (67, undef), (68, undef), (69, undef), (70, undef), (71, undef), (72, undef), (73, undef), (74, undef), (75, undef), (76, .bool true)]) (bx' := [⟨p2_1, [.slice g1.1 s1.1.length g1.2, .int .i64 s1.2, .bool false, .bool true], 79⟩, ⟨p0_0, [.slice none 0 0, .int .i64 0, .bool false, .bool false], 79⟩]) (by kernel_rfl) ?_
     refine O.nil (by kernel_rfl) ?_
     refine J.cond (o := .tmp 76) true (by kernel_rfl) (by kernel_rfl) ?_
     refine J.seq (by kernel_rfl) ?_
     refine J.region (by kernel_rfl) ?_
     refine O.pure 2 [(0, 3)] [2, 4] [p2_1, 3] (fr' := [(2, .pointer (some ⟨p0_0, 0, none⟩)), (4, .pointer (some ⟨p2_1, 0, none⟩))]) (bx' := [⟨p2_1, [.slice g1.1 s1.1.length g1.2, .int .i64 s1.2, .bool false, .bool false], 79⟩, ⟨p0_0, [.slice none 0 0, .int .i64 0, .bool false, .bool false], 79⟩]) (by kernel_rfl) ?_
     refine O.nil (by kernel_rfl) ?_
     refine J.seq (by kernel_rfl) ?_
     refine J.region (by kernel_rfl) ?_
     refine O.pure 2 [(0, 0), (1, 0)] [2] [p2_1, 0, p0_0, 0] (fr' := [(2, .pointer (some ⟨p0_0, 0, none⟩))]) (bx' := [⟨p2_1, [.slice g1.1 s1.1.length g1.2, .int .i64 s1.2, .bool false, .bool false], 79⟩, ⟨p0_0, [.slice g1.1 s1.1.length g1.2, .int .i64 s1.2, .bool false, .bool false], 79⟩]) (by kernel_rfl) ?_
     refine O.nil (by kernel_rfl) ?_
     obtain rfl := Option.some.inj H
     exact J.doneS [(1, 0)] [p0_0, 0] [] [] [0] g1 (vs := [.agg #[.slice g1.1 s1.1.length g1.2, .int .i64 s1.2, .bool false, .bool false]]) (by kernel_rfl) (by kernel_rfl) (by kernel_rfl) (by kernel_rfl) (by kernel_rfl) (by decide)
    ·rcases condE H with ⟨hc19, H⟩ | ⟨hc19, H⟩
     ·refine J.region (by kernel_rfl) ?_
      refine O.pure 1 [] [2, 3, 4, 5, 6, 8, 44] [] (fr' := [(2, .pointer (some ⟨p0_0, 0, none⟩)), (3, .slice p1_2.1 x1_2.length p1_2.2), (4, .pointer (some ⟨p2_1, 0, none⟩)), (5, .slice p4_4.1 x4_4.1.length p4_4.2), (6, .int .i64 x4_4.2.1), (8, .int .i64 x9_1.1), (44, .bool x9_1.2)]) (bx' := [⟨p2_1, [.slice g1.1 s1.1.length g1.2, .int .i64 s1.2, .bool false, .bool true], 79⟩, ⟨p0_0, [.slice none 0 0, .int .i64 0, .bool false, .bool false], 79⟩]) (by kernel_rfl) ?_
      refine O.q (v := .bool false) (some 45) (Qu.eqv (u := .bool (!x9_1.2)) (v := .bool false) (0, 0) [] (by kernel_rfl) (congrArg Value.bool hc18)) (by kernel_rfl) ?_
      refine O.pure 3 [] [2, 3, 4, 6, 8, 46, 47, 48] [] (fr' := [(2, .pointer (some ⟨p0_0, 0, none⟩)), (3, .slice p1_2.1 x1_2.length p1_2.2), (4, .pointer (some ⟨p2_1, 0, none⟩)), (6, .int .i64 x4_4.2.1), (8, .int .i64 x9_1.1), (46, .bool false), (47, .slice p4_4.1 x4_4.1.length p4_4.2), (48, .int .i64 (x4_4.1.length : Int))]) (bx' := [⟨p2_1, [.slice g1.1 s1.1.length g1.2, .int .i64 s1.2, .bool false, .bool true], 79⟩, ⟨p0_0, [.slice none 0 0, .int .i64 0, .bool false, .bool false], 79⟩]) (by kernel_rfl) ?_
      refine O.q (v := .bool true) (some 49) (Qu.eqv (u := .bool ((x4_4.1.length : Int) != 8)) (v := .bool true) (0, 0) [] (by kernel_rfl) (congrArg Value.bool hc19)) (by kernel_rfl) ?_
      refine O.pure 27 [] [2, 3, 4, 6, 8, 47, 48, 49, 52, 53, 56, 57, 60, 61, 62, 63, 64, 65, 66, 67, 68, 69, 70, 71, 72, 73, 74, 75, 76] [] (fr' := [(2, .pointer (some ⟨p0_0, 0, none⟩)), (3, .slice p1_2.1 x1_2.length p1_2.2), (4, .pointer (some ⟨p2_1, 0, none⟩)), (6, .int .i64 x4_4.2.1), (8, .int .i64 x9_1.1), (47, .slice p4_4.1 x4_4.1.length p4_4.2), (48, .int .i64 (x4_4.1.length : Int)), (49, .bool true), (52, undef), (53, undef), (56, undef), (57, undef), (60, undef), (61, undef), (62, undef), (63, undef), (64, undef), (65, undef), (66, undef), (67, undef), (68, undef), (69, undef), (70, undef), (71, undef), (72, undef), (73, undef), (74, undef), (75, undef), (76, .bool true)]) (bx' := [⟨p2_1, [.slice g1.1 s1.1.length g1.2, .int .i64 s1.2, .bool false, .bool true], 79⟩, ⟨p0_0, [.slice none 0 0, .int .i64 0, .bool false, .bool false], 79⟩]) (by kernel_rfl) ?_
      refine O.nil (by kernel_rfl) ?_
      refine J.cond (o := .tmp 76) true (by kernel_rfl) (by kernel_rfl) ?_
      refine J.seq (by kernel_rfl) ?_
      refine J.region (by kernel_rfl) ?_
      refine O.pure 2 [(0, 3)] [2, 4] [p2_1, 3] (fr' := [(2, .pointer (some ⟨p0_0, 0, none⟩)), (4, .pointer (some ⟨p2_1, 0, none⟩))]) (bx' := [⟨p2_1, [.slice g1.1 s1.1.length g1.2, .int .i64 s1.2, .bool false, .bool false], 79⟩, ⟨p0_0, [.slice none 0 0, .int .i64 0, .bool false, .bool false], 79⟩]) (by kernel_rfl) ?_
      refine O.nil (by kernel_rfl) ?_
      refine J.seq (by kernel_rfl) ?_
      refine J.region (by kernel_rfl) ?_
      refine O.pure 2 [(0, 0), (1, 0)] [2] [p2_1, 0, p0_0, 0] (fr' := [(2, .pointer (some ⟨p0_0, 0, none⟩))]) (bx' := [⟨p2_1, [.slice g1.1 s1.1.length g1.2, .int .i64 s1.2, .bool false, .bool false], 79⟩, ⟨p0_0, [.slice g1.1 s1.1.length g1.2, .int .i64 s1.2, .bool false, .bool false], 79⟩]) (by kernel_rfl) ?_
      refine O.nil (by kernel_rfl) ?_
      obtain rfl := Option.some.inj H
      exact J.doneS [(1, 0)] [p0_0, 0] [] [] [0] g1 (vs := [.agg #[.slice g1.1 s1.1.length g1.2, .int .i64 s1.2, .bool false, .bool false]]) (by kernel_rfl) (by kernel_rfl) (by kernel_rfl) (by kernel_rfl) (by kernel_rfl) (by decide)
     ·rcases condE H with ⟨hc20, H⟩ | ⟨hc20, H⟩
      ·refine J.region (by kernel_rfl) ?_
       refine O.pure 1 [] [2, 3, 4, 5, 6, 8, 44] [] (fr' := [(2, .pointer (some ⟨p0_0, 0, none⟩)), (3, .slice p1_2.1 x1_2.length p1_2.2), (4, .pointer (some ⟨p2_1, 0, none⟩)), (5, .slice p4_4.1 x4_4.1.length p4_4.2), (6, .int .i64 x4_4.2.1), (8, .int .i64 x9_1.1), (44, .bool x9_1.2)]) (bx' := [⟨p2_1, [.slice g1.1 s1.1.length g1.2, .int .i64 s1.2, .bool false, .bool true], 79⟩, ⟨p0_0, [.slice none 0 0, .int .i64 0, .bool false, .bool false], 79⟩]) (by kernel_rfl) ?_
       refine O.q (v := .bool false) (some 45) (Qu.eqv (u := .bool (!x9_1.2)) (v := .bool false) (0, 0) [] (by kernel_rfl) (congrArg Value.bool hc18)) (by kernel_rfl) ?_
       refine O.pure 3 [] [2, 3, 4, 6, 8, 46, 47, 48] [] (fr' := [(2, .pointer (some ⟨p0_0, 0, none⟩)), (3, .slice p1_2.1 x1_2.length p1_2.2), (4, .pointer (some ⟨p2_1, 0, none⟩)), (6, .int .i64 x4_4.2.1), (8, .int .i64 x9_1.1), (46, .bool false), (47, .slice p4_4.1 x4_4.1.length p4_4.2), (48, .int .i64 (x4_4.1.length : Int))]) (bx' := [⟨p2_1, [.slice g1.1 s1.1.length g1.2, .int .i64 s1.2, .bool false, .bool true], 79⟩, ⟨p0_0, [.slice none 0 0, .int .i64 0, .bool false, .bool false], 79⟩]) (by kernel_rfl) ?_
       refine O.q (v := .bool false) (some 49) (Qu.eqv (u := .bool ((x4_4.1.length : Int) != 8)) (v := .bool false) (0, 0) [] (by kernel_rfl) (congrArg Value.bool hc19)) (by kernel_rfl) ?_
       refine O.pure 3 [] [2, 3, 4, 6, 8, 47, 48, 49, 51, 52] [] (fr' := [(2, .pointer (some ⟨p0_0, 0, none⟩)), (3, .slice p1_2.1 x1_2.length p1_2.2), (4, .pointer (some ⟨p2_1, 0, none⟩)), (6, .int .i64 x4_4.2.1), (8, .int .i64 x9_1.1), (47, .slice p4_4.1 x4_4.1.length p4_4.2), (48, .int .i64 (x4_4.1.length : Int)), (49, .bool false), (51, .bool false), (52, .int .i64 x9_1.1)]) (bx' := [⟨p2_1, [.slice g1.1 s1.1.length g1.2, .int .i64 s1.2, .bool false, .bool true], 79⟩, ⟨p0_0, [.slice none 0 0, .int .i64 0, .bool false, .bool false], 79⟩]) (by kernel_rfl) ?_
       refine O.q (v := .bool true) (some 53) (Qu.eqv (u := .bool (decide (x9_1.1 < 1))) (v := .bool true) (0, 0) [] (by kernel_rfl) (congrArg Value.bool hc20)) (by kernel_rfl) ?_
       refine O.pure 23 [] [2, 3, 4, 6, 8, 47, 48, 49, 52, 53, 56, 57, 60, 61, 62, 63, 64, 65, 66, 67, 68, 69, 70, 71, 72, 73, 74, 75, 76] [] (fr' := [(2, .pointer (some ⟨p0_0, 0, none⟩)), (3, .slice p1_2.1 x1_2.length p1_2.2), (4, .pointer (some ⟨p2_1, 0, none⟩)), (6, .int .i64 x4_4.2.1), (8, .int .i64 x9_1.1), (47, .slice p4_4.1 x4_4.1.length p4_4.2), (48, .int .i64 (x4_4.1.length : Int)), (49, .bool false), (52, .int .i64 x9_1.1), (53, .bool true), (56, undef), (57, undef), (60, undef), (61, undef), (62, undef), (63, undef), (64, undef), (65, undef), (66, undef), (67, undef), (68, undef), (69, undef), (70, undef), (71, undef), (72, undef), (73, undef), (74, undef), (75, undef), (76, .bool true)]) (bx' := [⟨p2_1, [.slice g1.1 s1.1.length g1.2, .int .i64 s1.2, .bool false, .bool true], 79⟩, ⟨p0_0, [.slice none 0 0, .int .i64 0, .bool false, .bool false], 79⟩]) (by kernel_rfl) ?_
       refine O.nil (by kernel_rfl) ?_
       refine J.cond (o := .tmp 76) true (by kernel_rfl) (by kernel_rfl) ?_
       refine J.seq (by kernel_rfl) ?_
       refine J.region (by kernel_rfl) ?_
       refine O.pure 2 [(0, 3)] [2, 4] [p2_1, 3] (fr' := [(2, .pointer (some ⟨p0_0, 0, none⟩)), (4, .pointer (some ⟨p2_1, 0, none⟩))]) (bx' := [⟨p2_1, [.slice g1.1 s1.1.length g1.2, .int .i64 s1.2, .bool false, .bool false], 79⟩, ⟨p0_0, [.slice none 0 0, .int .i64 0, .bool false, .bool false], 79⟩]) (by kernel_rfl) ?_
       refine O.nil (by kernel_rfl) ?_
       refine J.seq (by kernel_rfl) ?_
       refine J.region (by kernel_rfl) ?_
       refine O.pure 2 [(0, 0), (1, 0)] [2] [p2_1, 0, p0_0, 0] (fr' := [(2, .pointer (some ⟨p0_0, 0, none⟩))]) (bx' := [⟨p2_1, [.slice g1.1 s1.1.length g1.2, .int .i64 s1.2, .bool false, .bool false], 79⟩, ⟨p0_0, [.slice g1.1 s1.1.length g1.2, .int .i64 s1.2, .bool false, .bool false], 79⟩]) (by kernel_rfl) ?_
       refine O.nil (by kernel_rfl) ?_
       obtain rfl := Option.some.inj H
       exact J.doneS [(1, 0)] [p0_0, 0] [] [] [0] g1 (vs := [.agg #[.slice g1.1 s1.1.length g1.2, .int .i64 s1.2, .bool false, .bool false]]) (by kernel_rfl) (by kernel_rfl) (by kernel_rfl) (by kernel_rfl) (by kernel_rfl) (by decide)
      ·rcases condE H with ⟨hc21, H⟩ | ⟨hc21, H⟩
       ·refine J.region (by kernel_rfl) ?_
        refine O.pure 1 [] [2, 3, 4, 5, 6, 8, 44] [] (fr' := [(2, .pointer (some ⟨p0_0, 0, none⟩)), (3, .slice p1_2.1 x1_2.length p1_2.2), (4, .pointer (some ⟨p2_1, 0, none⟩)), (5, .slice p4_4.1 x4_4.1.length p4_4.2), (6, .int .i64 x4_4.2.1), (8, .int .i64 x9_1.1), (44, .bool x9_1.2)]) (bx' := [⟨p2_1, [.slice g1.1 s1.1.length g1.2, .int .i64 s1.2, .bool false, .bool true], 79⟩, ⟨p0_0, [.slice none 0 0, .int .i64 0, .bool false, .bool false], 79⟩]) (by kernel_rfl) ?_
        refine O.q (v := .bool false) (some 45) (Qu.eqv (u := .bool (!x9_1.2)) (v := .bool false) (0, 0) [] (by kernel_rfl) (congrArg Value.bool hc18)) (by kernel_rfl) ?_
        refine O.pure 3 [] [2, 3, 4, 6, 8, 46, 47, 48] [] (fr' := [(2, .pointer (some ⟨p0_0, 0, none⟩)), (3, .slice p1_2.1 x1_2.length p1_2.2), (4, .pointer (some ⟨p2_1, 0, none⟩)), (6, .int .i64 x4_4.2.1), (8, .int .i64 x9_1.1), (46, .bool false), (47, .slice p4_4.1 x4_4.1.length p4_4.2), (48, .int .i64 (x4_4.1.length : Int))]) (bx' := [⟨p2_1, [.slice g1.1 s1.1.length g1.2, .int .i64 s1.2, .bool false, .bool true], 79⟩, ⟨p0_0, [.slice none 0 0, .int .i64 0, .bool false, .bool false], 79⟩]) (by kernel_rfl) ?_
        refine O.q (v := .bool false) (some 49) (Qu.eqv (u := .bool ((x4_4.1.length : Int) != 8)) (v := .bool false) (0, 0) [] (by kernel_rfl) (congrArg Value.bool hc19)) (by kernel_rfl) ?_
        refine O.pure 3 [] [2, 3, 4, 6, 8, 47, 48, 49, 51, 52] [] (fr' := [(2, .pointer (some ⟨p0_0, 0, none⟩)), (3, .slice p1_2.1 x1_2.length p1_2.2), (4, .pointer (some ⟨p2_1, 0, none⟩)), (6, .int .i64 x4_4.2.1), (8, .int .i64 x9_1.1), (47, .slice p4_4.1 x4_4.1.length p4_4.2), (48, .int .i64 (x4_4.1.length : Int)), (49, .bool false), (51, .bool false), (52, .int .i64 x9_1.1)]) (bx' := [⟨p2_1, [.slice g1.1 s1.1.length g1.2, .int .i64 s1.2, .bool false, .bool true], 79⟩, ⟨p0_0, [.slice none 0 0, .int .i64 0, .bool false, .bool false], 79⟩]) (by kernel_rfl) ?_
        refine O.q (v := .bool false) (some 53) (Qu.eqv (u := .bool (decide (x9_1.1 < 1))) (v := .bool false) (0, 0) [] (by kernel_rfl) (congrArg Value.bool hc20)) (by kernel_rfl) ?_
        refine O.pure 3 [] [2, 3, 4, 6, 8, 47, 48, 49, 52, 53, 55, 56] [] (fr' := [(2, .pointer (some ⟨p0_0, 0, none⟩)), (3, .slice p1_2.1 x1_2.length p1_2.2), (4, .pointer (some ⟨p2_1, 0, none⟩)), (6, .int .i64 x4_4.2.1), (8, .int .i64 x9_1.1), (47, .slice p4_4.1 x4_4.1.length p4_4.2), (48, .int .i64 (x4_4.1.length : Int)), (49, .bool false), (52, .int .i64 x9_1.1), (53, .bool false), (55, .bool false), (56, .int .i64 x9_1.1)]) (bx' := [⟨p2_1, [.slice g1.1 s1.1.length g1.2, .int .i64 s1.2, .bool false, .bool true], 79⟩, ⟨p0_0, [.slice none 0 0, .int .i64 0, .bool false, .bool false], 79⟩]) (by kernel_rfl) ?_
        refine O.q (v := .bool true) (some 57) (Qu.eqv (u := .bool (decide (x9_1.1 > 1099511627776))) (v := .bool true) (0, 0) [] (by kernel_rfl) (congrArg Value.bool hc21)) (by kernel_rfl) ?_
        refine O.pure 19 [] [2, 3, 4, 6, 8, 47, 48, 49, 52, 53, 56, 57, 60, 61, 62, 63, 64, 65, 66, 67, 68, 69, 70, 71, 72, 73, 74, 75, 76] [] (fr' := [(2, .pointer (some ⟨p0_0, 0, none⟩)), (3, .slice p1_2.1 x1_2.length p1_2.2), (4, .pointer (some ⟨p2_1, 0, none⟩)), (6, .int .i64 x4_4.2.1), (8, .int .i64 x9_1.1), (47, .slice p4_4.1 x4_4.1.length p4_4.2), (48, .int .i64 (x4_4.1.length : Int)), (49, .bool false), (52, .int .i64 x9_1.1), (53, .bool false), (56, .int .i64 x9_1.1), (57, .bool true), (60, undef), (61, undef), (62, undef), (63, undef), (64, undef), (65, undef), (66, undef), (67, undef), (68, undef), (69, undef), (70, undef), (71, undef), (72, undef), (73, undef), (74, undef), (75, undef), (76, .bool true)]) (bx' := [⟨p2_1, [.slice g1.1 s1.1.length g1.2, .int .i64 s1.2, .bool false, .bool true], 79⟩, ⟨p0_0, [.slice none 0 0, .int .i64 0, .bool false, .bool false], 79⟩]) (by kernel_rfl) ?_
        refine O.nil (by kernel_rfl) ?_
        refine J.cond (o := .tmp 76) true (by kernel_rfl) (by kernel_rfl) ?_
        refine J.seq (by kernel_rfl) ?_
        refine J.region (by kernel_rfl) ?_
        refine O.pure 2 [(0, 3)] [2, 4] [p2_1, 3] (fr' := [(2, .pointer (some ⟨p0_0, 0, none⟩)), (4, .pointer (some ⟨p2_1, 0, none⟩))]) (bx' := [⟨p2_1, [.slice g1.1 s1.1.length g1.2, .int .i64 s1.2, .bool false, .bool false], 79⟩, ⟨p0_0, [.slice none 0 0, .int .i64 0, .bool false, .bool false], 79⟩]) (by kernel_rfl) ?_
        refine O.nil (by kernel_rfl) ?_
        refine J.seq (by kernel_rfl) ?_
        refine J.region (by kernel_rfl) ?_
        refine O.pure 2 [(0, 0), (1, 0)] [2] [p2_1, 0, p0_0, 0] (fr' := [(2, .pointer (some ⟨p0_0, 0, none⟩))]) (bx' := [⟨p2_1, [.slice g1.1 s1.1.length g1.2, .int .i64 s1.2, .bool false, .bool false], 79⟩, ⟨p0_0, [.slice g1.1 s1.1.length g1.2, .int .i64 s1.2, .bool false, .bool false], 79⟩]) (by kernel_rfl) ?_
        refine O.nil (by kernel_rfl) ?_
        obtain rfl := Option.some.inj H
        exact J.doneS [(1, 0)] [p0_0, 0] [] [] [0] g1 (vs := [.agg #[.slice g1.1 s1.1.length g1.2, .int .i64 s1.2, .bool false, .bool false]]) (by kernel_rfl) (by kernel_rfl) (by kernel_rfl) (by kernel_rfl) (by kernel_rfl) (by decide)
       ·rcases condE H with ⟨hc22, H⟩ | ⟨hc22, H⟩
        ·obtain ⟨x10_27, hx10_27, H⟩ := bindE H
         obtain ⟨hx10_27a, hx10_27⟩ := idxE hx10_27
         refine J.region (by kernel_rfl) ?_
         refine O.pure 1 [] [2, 3, 4, 5, 6, 8, 44] [] (fr' := [(2, .pointer (some ⟨p0_0, 0, none⟩)), (3, .slice p1_2.1 x1_2.length p1_2.2), (4, .pointer (some ⟨p2_1, 0, none⟩)), (5, .slice p4_4.1 x4_4.1.length p4_4.2), (6, .int .i64 x4_4.2.1), (8, .int .i64 x9_1.1), (44, .bool x9_1.2)]) (bx' := [⟨p2_1, [.slice g1.1 s1.1.length g1.2, .int .i64 s1.2, .bool false, .bool true], 79⟩, ⟨p0_0, [.slice none 0 0, .int .i64 0, .bool false, .bool false], 79⟩]) (by kernel_rfl) ?_
         refine O.q (v := .bool false) (some 45) (Qu.eqv (u := .bool (!x9_1.2)) (v := .bool false) (0, 0) [] (by kernel_rfl) (congrArg Value.bool hc18)) (by kernel_rfl) ?_
         refine O.pure 3 [] [2, 3, 4, 6, 8, 46, 47, 48] [] (fr' := [(2, .pointer (some ⟨p0_0, 0, none⟩)), (3, .slice p1_2.1 x1_2.length p1_2.2), (4, .pointer (some ⟨p2_1, 0, none⟩)), (6, .int .i64 x4_4.2.1), (8, .int .i64 x9_1.1), (46, .bool false), (47, .slice p4_4.1 x4_4.1.length p4_4.2), (48, .int .i64 (x4_4.1.length : Int))]) (bx' := [⟨p2_1, [.slice g1.1 s1.1.length g1.2, .int .i64 s1.2, .bool false, .bool true], 79⟩, ⟨p0_0, [.slice none 0 0, .int .i64 0, .bool false, .bool false], 79⟩]) (by kernel_rfl) ?_
         refine O.q (v := .bool false) (some 49) (Qu.eqv (u := .bool ((x4_4.1.length : Int) != 8)) (v := .bool false) (0, 0) [] (by kernel_rfl) (congrArg Value.bool hc19)) (by kernel_rfl) ?_
         refine O.pure 3 [] [2, 3, 4, 6, 8, 47, 48, 49, 51, 52] [] (fr' := [(2, .pointer (some ⟨p0_0, 0, none⟩)), (3, .slice p1_2.1 x1_2.length p1_2.2), (4, .pointer (some ⟨p2_1, 0, none⟩)), (6, .int .i64 x4_4.2.1), (8, .int .i64 x9_1.1), (47, .slice p4_4.1 x4_4.1.length p4_4.2), (48, .int .i64 (x4_4.1.length : Int)), (49, .bool false), (51, .bool false), (52, .int .i64 x9_1.1)]) (bx' := [⟨p2_1, [.slice g1.1 s1.1.length g1.2, .int .i64 s1.2, .bool false, .bool true], 79⟩, ⟨p0_0, [.slice none 0 0, .int .i64 0, .bool false, .bool false], 79⟩]) (by kernel_rfl) ?_
         refine O.q (v := .bool false) (some 53) (Qu.eqv (u := .bool (decide (x9_1.1 < 1))) (v := .bool false) (0, 0) [] (by kernel_rfl) (congrArg Value.bool hc20)) (by kernel_rfl) ?_
         refine O.pure 3 [] [2, 3, 4, 6, 8, 47, 48, 49, 52, 53, 55, 56] [] (fr' := [(2, .pointer (some ⟨p0_0, 0, none⟩)), (3, .slice p1_2.1 x1_2.length p1_2.2), (4, .pointer (some ⟨p2_1, 0, none⟩)), (6, .int .i64 x4_4.2.1), (8, .int .i64 x9_1.1), (47, .slice p4_4.1 x4_4.1.length p4_4.2), (48, .int .i64 (x4_4.1.length : Int)), (49, .bool false), (52, .int .i64 x9_1.1), (53, .bool false), (55, .bool false), (56, .int .i64 x9_1.1)]) (bx' := [⟨p2_1, [.slice g1.1 s1.1.length g1.2, .int .i64 s1.2, .bool false, .bool true], 79⟩, ⟨p0_0, [.slice none 0 0, .int .i64 0, .bool false, .bool false], 79⟩]) (by kernel_rfl) ?_
         refine O.q (v := .bool false) (some 57) (Qu.eqv (u := .bool (decide (x9_1.1 > 1099511627776))) (v := .bool false) (0, 0) [] (by kernel_rfl) (congrArg Value.bool hc21)) (by kernel_rfl) ?_
         refine O.pure 5 [(0, 0)] [2, 3, 4, 6, 8, 47, 48, 49, 52, 53, 56, 57, 59, 60, 61, 62] [p2_1, 0] (fr' := [(2, .pointer (some ⟨p0_0, 0, none⟩)), (3, .slice p1_2.1 x1_2.length p1_2.2), (4, .pointer (some ⟨p2_1, 0, none⟩)), (6, .int .i64 x4_4.2.1), (8, .int .i64 x9_1.1), (47, .slice p4_4.1 x4_4.1.length p4_4.2), (48, .int .i64 (x4_4.1.length : Int)), (49, .bool false), (52, .int .i64 x9_1.1), (53, .bool false), (56, .int .i64 x9_1.1), (57, .bool false), (59, .bool false), (60, .pointer (some ⟨p2_1, 0, none⟩)), (61, .slice g1.1 s1.1.length g1.2), (62, .int .i64 (s1.1.length : Int))]) (bx' := [⟨p2_1, [.slice g1.1 s1.1.length g1.2, .int .i64 s1.2, .bool false, .bool true], 79⟩, ⟨p0_0, [.slice none 0 0, .int .i64 0, .bool false, .bool false], 79⟩]) (by kernel_rfl) ?_
         refine O.q (v := .bool true) (some 63) (Qu.eqv (u := .bool (decide ((s1.1.length : Int) > 0))) (v := .bool true) (0, 0) [] (by kernel_rfl) (congrArg Value.bool hc22)) (by kernel_rfl) ?_
         refine O.pure 7 [(0, 0), (0, 0)] [2, 3, 4, 6, 8, 47, 48, 49, 52, 53, 56, 57, 59, 60, 61, 62, 63, 64, 65, 66, 67, 68, 69, 70] [p2_1, 0, p2_1, 0] (fr' := [(2, .pointer (some ⟨p0_0, 0, none⟩)), (3, .slice p1_2.1 x1_2.length p1_2.2), (4, .pointer (some ⟨p2_1, 0, none⟩)), (6, .int .i64 x4_4.2.1), (8, .int .i64 x9_1.1), (47, .slice p4_4.1 x4_4.1.length p4_4.2), (48, .int .i64 (x4_4.1.length : Int)), (49, .bool false), (52, .int .i64 x9_1.1), (53, .bool false), (56, .int .i64 x9_1.1), (57, .bool false), (59, .bool false), (60, .pointer (some ⟨p2_1, 0, none⟩)), (61, .slice g1.1 s1.1.length g1.2), (62, .int .i64 (s1.1.length : Int)), (63, .bool true), (64, .bool true), (65, .pointer (some ⟨p2_1, 0, none⟩)), (66, .slice g1.1 s1.1.length g1.2), (67, .pointer (some ⟨p2_1, 0, none⟩)), (68, .slice g1.1 s1.1.length g1.2), (69, .int .i64 (s1.1.length : Int)), (70, .int .i64 (IntKind.wrap .i64 ((s1.1.length : Int) - 1)))]) (bx' := [⟨p2_1, [.slice g1.1 s1.1.length g1.2, .int .i64 s1.2, .bool false, .bool true], 79⟩, ⟨p0_0, [.slice none 0 0, .int .i64 0, .bool false, .bool false], 79⟩]) (by kernel_rfl) ?_
         refine O.mono (fun w hS => hS.pk) ?_
         refine O.peek (d := (Kd.int .i64)) (hh := g1) (m := s1.1.length) (i := (IntKind.wrap .i64 ((s1.1.length : Int) - 1))) (by simpa only [List.length_set] using hx10_27) (Lay.int _ _) (fun p10_27 hp10_27A => ?_)
         refine O.q (v := .pointer (some ⟨p10_27.1, 0 + (IntKind.wrap .i64 ((s1.1.length : Int) - 1)).toNat * 1, none⟩)) (some 71) (Qu.idx (t := 59) (x := .tmp 66) (y := .tmp 70) (len := s1.1.length) (c := g1.2) (kk := .i64) (sz := 1) (by kernel_rfl) (by kernel_rfl) (by kernel_rfl) (by kernel_rfl) hx10_27a (by have := idx_lt hx10_27; simpa only [List.length_set, List.length_replicate] using this) hp10_27A) (by kernel_rfl) ?_
         refine O.q (v := .int .i64 x10_27) (some 72) (Qu.loadR (t := 3) (x := .tmp 71) (hh := g1) (m := s1.1.length) (i := (IntKind.wrap .i64 ((s1.1.length : Int) - 1)).toNat) (u := .pointer (some ⟨p10_27.1, 0 + (IntKind.wrap .i64 ((s1.1.length : Int) - 1)).toNat * 1, none⟩)) (r := .int .i64 x10_27) (cs := [.int .i64 x10_27]) 0 0 [p10_27.1, 0 + (IntKind.wrap .i64 ((s1.1.length : Int) - 1)).toNat * 1] (by kernel_rfl) (by kernel_rfl) hp10_27A rfl (by kernel_rfl)) (by kernel_rfl) ?_
         refine O.pure 4 [] [2, 3, 4, 6, 8, 47, 48, 49, 52, 53, 56, 57, 60, 61, 62, 63, 64, 65, 66, 67, 68, 69, 70, 71, 72, 73, 74, 75, 76] [] (fr' := [(2, .pointer (some ⟨p0_0, 0, none⟩)), (3, .slice p1_2.1 x1_2.length p1_2.2), (4, .pointer (some ⟨p2_1, 0, none⟩)), (6, .int .i64 x4_4.2.1), (8, .int .i64 x9_1.1), (47, .slice p4_4.1 x4_4.1.length p4_4.2), (48, .int .i64 (x4_4.1.length : Int)), (49, .bool false), (52, .int .i64 x9_1.1), (53, .bool false), (56, .int .i64 x9_1.1), (57, .bool false), (60, .pointer (some ⟨p2_1, 0, none⟩)), (61, .slice g1.1 s1.1.length g1.2), (62, .int .i64 (s1.1.length : Int)), (63, .bool true), (64, .bool true), (65, .pointer (some ⟨p2_1, 0, none⟩)), (66, .slice g1.1 s1.1.length g1.2), (67, .pointer (some ⟨p2_1, 0, none⟩)), (68, .slice g1.1 s1.1.length g1.2), (69, .int .i64 (s1.1.length : Int)), (70, .int .i64 (IntKind.wrap .i64 ((s1.1.length : Int) - 1))), (71, .pointer (some ⟨p10_27.1, 0 + (IntKind.wrap .i64 ((s1.1.length : Int) - 1)).toNat * 1, none⟩)), (72, .int .i64 x10_27), (73, .int .i64 x9_1.1), (74, .bool (decide (x10_27 ≥ x9_1.1))), (75, .bool (decide (x10_27 ≥ x9_1.1))), (76, .bool (decide (x10_27 ≥ x9_1.1)))]) (bx' := [⟨p2_1, [.slice g1.1 s1.1.length g1.2, .int .i64 s1.2, .bool false, .bool true], 79⟩, ⟨p0_0, [.slice none 0 0, .int .i64 0, .bool false, .bool false], 79⟩]) (by kernel_rfl) ?_
         refine O.nil (by kernel_rfl) ?_
         refine J.mono (fun w hS => hS.unpk) ?_
         rcases condE H with ⟨hc23, H⟩ | ⟨hc23, H⟩
         ·refine J.condT (x := .tmp 76) (t := (decide (x10_27 ≥ x9_1.1))) (by kernel_rfl) (by kernel_rfl) hc23 ?_
          refine J.seq (by kernel_rfl) ?_
          refine J.region (by kernel_rfl) ?_
          refine O.pure 2 [(0, 3)] [2, 4] [p2_1, 3] (fr' := [(2, .pointer (some ⟨p0_0, 0, none⟩)), (4, .pointer (some ⟨p2_1, 0, none⟩))]) (bx' := [⟨p2_1, [.slice g1.1 s1.1.length g1.2, .int .i64 s1.2, .bool false, .bool false], 79⟩, ⟨p0_0, [.slice none 0 0, .int .i64 0, .bool false, .bool false], 79⟩]) (by kernel_rfl) ?_
          refine O.nil (by kernel_rfl) ?_
          refine J.seq (by kernel_rfl) ?_
          refine J.region (by kernel_rfl) ?_
          refine O.pure 2 [(0, 0), (1, 0)] [2] [p2_1, 0, p0_0, 0] (fr' := [(2, .pointer (some ⟨p0_0, 0, none⟩))]) (bx' := [⟨p2_1, [.slice g1.1 s1.1.length g1.2, .int .i64 s1.2, .bool false, .bool false], 79⟩, ⟨p0_0, [.slice g1.1 s1.1.length g1.2, .int .i64 s1.2, .bool false, .bool false], 79⟩]) (by kernel_rfl) ?_
          refine O.nil (by kernel_rfl) ?_
          obtain rfl := Option.some.inj H
          exact J.doneS [(1, 0)] [p0_0, 0] [] [] [0] g1 (vs := [.agg #[.slice g1.1 s1.1.length g1.2, .int .i64 s1.2, .bool false, .bool false]]) (by kernel_rfl) (by kernel_rfl) (by kernel_rfl) (by kernel_rfl) (by kernel_rfl) (by decide)
         ·refine J.condF (x := .tmp 76) (t := (decide (x10_27 ≥ x9_1.1))) (by kernel_rfl) (by kernel_rfl) hc23 ?_
          refine J.skip (by kernel_rfl) ?_
          refine J.seq (by kernel_rfl) ?_
          obtain ⟨y13_4, hy13_4, H⟩ := bindE H
          have hy13_4a := (appE hy13_4).1
          refine J.region (by kernel_rfl) ?_
          refine O.pure 3 [(0, 0)] [2, 3, 4, 6, 47, 48, 49, 52, 53, 56, 57, 60, 61, 62, 63, 64, 65, 66, 67, 68, 69, 70, 71, 72, 73, 74, 75, 80, 81] [p2_1, 0] (fr' := [(2, .pointer (some ⟨p0_0, 0, none⟩)), (3, .slice p1_2.1 x1_2.length p1_2.2), (4, .pointer (some ⟨p2_1, 0, none⟩)), (6, .int .i64 x4_4.2.1), (47, .slice p4_4.1 x4_4.1.length p4_4.2), (48, .int .i64 (x4_4.1.length : Int)), (49, .bool false), (52, .int .i64 x9_1.1), (53, .bool false), (56, .int .i64 x9_1.1), (57, .bool false), (60, .pointer (some ⟨p2_1, 0, none⟩)), (61, .slice g1.1 s1.1.length g1.2), (62, .int .i64 (s1.1.length : Int)), (63, .bool true), (64, .bool true), (65, .pointer (some ⟨p2_1, 0, none⟩)), (66, .slice g1.1 s1.1.length g1.2), (67, .pointer (some ⟨p2_1, 0, none⟩)), (68, .slice g1.1 s1.1.length g1.2), (69, .int .i64 (s1.1.length : Int)), (70, .int .i64 (IntKind.wrap .i64 ((s1.1.length : Int) - 1))), (71, .pointer (some ⟨p10_27.1, 0 + (IntKind.wrap .i64 ((s1.1.length : Int) - 1)).toNat * 1, none⟩)), (72, .int .i64 x10_27), (73, .int .i64 x9_1.1), (74, .bool (decide (x10_27 ≥ x9_1.1))), (75, .bool (decide (x10_27 ≥ x9_1.1))), (80, .slice g1.1 s1.1.length g1.2), (81, .int .i64 x9_1.1)]) (bx' := [⟨p2_1, [.slice g1.1 s1.1.length g1.2, .int .i64 s1.2, .bool false, .bool true], 79⟩, ⟨p0_0, [.slice none 0 0, .int .i64 0, .bool false, .bool false], 79⟩]) (by kernel_rfl) ?_
          refine O.e (some 82) (Ev.lit (t := 59) (len := 1) (parts := #[(0, .tmp 81)]) (ps := [(0, .int .i64 x9_1.1)]) (cs := [.int .i64 x9_1.1]) (e := 3) (Kd.int .i64) ([x9_1.1] : List Int) (by kernel_rfl) (by kernel_rfl) (by kernel_rfl) (by kernel_rfl) (by kernel_rfl) (by decide) (fun w' hφ => (Els.cons (c := [.int .i64 x9_1.1]) (rfl) (Els.nil _ _ _)))) (by kernel_rfl) (fun p13_3 => ?_)
          refine O.e (some 83) (Ev.appLit (x := .tmp 80) (y := .tmp 82) (t := 59) (bytes := 8) (by kernel_rfl) (by kernel_rfl) (by kernel_rfl) (by kernel_rfl) (by kernel_rfl) (by decide) hy13_4a) (by kernel_rfl) (fun p13_4 => ?_)
          refine O.pure 2 [(0, 0)] [2, 3, 4, 6, 47, 48, 49, 52, 53, 56, 57, 60, 61, 62, 63, 64, 65, 66, 67, 68, 69, 70, 71, 72, 73, 74, 75] [p2_1, 0] (fr' := [(2, .pointer (some ⟨p0_0, 0, none⟩)), (3, .slice p1_2.1 x1_2.length p1_2.2), (4, .pointer (some ⟨p2_1, 0, none⟩)), (6, .int .i64 x4_4.2.1), (47, .slice p4_4.1 x4_4.1.length p4_4.2), (48, .int .i64 (x4_4.1.length : Int)), (49, .bool false), (52, .int .i64 x9_1.1), (53, .bool false), (56, .int .i64 x9_1.1), (57, .bool false), (60, .pointer (some ⟨p2_1, 0, none⟩)), (61, .slice g1.1 s1.1.length g1.2), (62, .int .i64 (s1.1.length : Int)), (63, .bool true), (64, .bool true), (65, .pointer (some ⟨p2_1, 0, none⟩)), (66, .slice g1.1 s1.1.length g1.2), (67, .pointer (some ⟨p2_1, 0, none⟩)), (68, .slice g1.1 s1.1.length g1.2), (69, .int .i64 (s1.1.length : Int)), (70, .int .i64 (IntKind.wrap .i64 ((s1.1.length : Int) - 1))), (71, .pointer (some ⟨p10_27.1, 0 + (IntKind.wrap .i64 ((s1.1.length : Int) - 1)).toNat * 1, none⟩)), (72, .int .i64 x10_27), (73, .int .i64 x9_1.1), (74, .bool (decide (x10_27 ≥ x9_1.1))), (75, .bool (decide (x10_27 ≥ x9_1.1)))]) (bx' := [⟨p2_1, [.slice p13_4.1 (s1.1 ++ ([x9_1.1] : List Int)).length p13_4.2, .int .i64 s1.2, .bool false, .bool true], 79⟩, ⟨p0_0, [.slice none 0 0, .int .i64 0, .bool false, .bool false], 79⟩]) (by kernel_rfl) ?_
          refine O.nil (by kernel_rfl) ?_
          refine J.region (by kernel_rfl) ?_
          refine O.pure 6 [(0, 1), (0, 1)] [2, 3, 4, 47, 48, 49, 52, 53, 56, 57, 60, 61, 62, 63, 64, 65, 66, 67, 68, 69, 70, 71, 72, 73, 74, 75] [p2_1, 1, p2_1, 1] (fr' := [(2, .pointer (some ⟨p0_0, 0, none⟩)), (3, .slice p1_2.1 x1_2.length p1_2.2), (4, .pointer (some ⟨p2_1, 0, none⟩)), (47, .slice p4_4.1 x4_4.1.length p4_4.2), (48, .int .i64 (x4_4.1.length : Int)), (49, .bool false), (52, .int .i64 x9_1.1), (53, .bool false), (56, .int .i64 x9_1.1), (57, .bool false), (60, .pointer (some ⟨p2_1, 0, none⟩)), (61, .slice g1.1 s1.1.length g1.2), (62, .int .i64 (s1.1.length : Int)), (63, .bool true), (64, .bool true), (65, .pointer (some ⟨p2_1, 0, none⟩)), (66, .slice g1.1 s1.1.length g1.2), (67, .pointer (some ⟨p2_1, 0, none⟩)), (68, .slice g1.1 s1.1.length g1.2), (69, .int .i64 (s1.1.length : Int)), (70, .int .i64 (IntKind.wrap .i64 ((s1.1.length : Int) - 1))), (71, .pointer (some ⟨p10_27.1, 0 + (IntKind.wrap .i64 ((s1.1.length : Int) - 1)).toNat * 1, none⟩)), (72, .int .i64 x10_27), (73, .int .i64 x9_1.1), (74, .bool (decide (x10_27 ≥ x9_1.1))), (75, .bool (decide (x10_27 ≥ x9_1.1)))]) (bx' := [⟨p2_1, [.slice p13_4.1 (s1.1 ++ ([x9_1.1] : List Int)).length p13_4.2, .int .i64 (IntKind.wrap .i64 (s1.2 + x4_4.2.1)), .bool false, .bool true], 79⟩, ⟨p0_0, [.slice none 0 0, .int .i64 0, .bool false, .bool false], 79⟩]) (by kernel_rfl) ?_
          refine O.nil (by kernel_rfl) ?_
          refine J.out ?_
          exact J.conv2 [2, 3, 4] [2, 3] [0, 1] [0] (by kernel_rfl) (by kernel_rfl) (by kernel_rfl) (by kernel_rfl) (by decide) (ih1 ((s1.1 ++ ([x9_1.1] : List Int)), (IntKind.wrap .i64 (s1.2 + x4_4.2.1))) p13_4 H)
        ·refine J.region (by kernel_rfl) ?_
         refine O.pure 1 [] [2, 3, 4, 5, 6, 8, 44] [] (fr' := [(2, .pointer (some ⟨p0_0, 0, none⟩)), (3, .slice p1_2.1 x1_2.length p1_2.2), (4, .pointer (some ⟨p2_1, 0, none⟩)), (5, .slice p4_4.1 x4_4.1.length p4_4.2), (6, .int .i64 x4_4.2.1), (8, .int .i64 x9_1.1), (44, .bool x9_1.2)]) (bx' := [⟨p2_1, [.slice g1.1 s1.1.length g1.2, .int .i64 s1.2, .bool false, .bool true], 79⟩, ⟨p0_0, [.slice none 0 0, .int .i64 0, .bool false, .bool false], 79⟩]) (by kernel_rfl) ?_
         refine O.q (v := .bool false) (some 45) (Qu.eqv (u := .bool (!x9_1.2)) (v := .bool false) (0, 0) [] (by kernel_rfl) (congrArg Value.bool hc18)) (by kernel_rfl) ?_
         refine O.pure 3 [] [2, 3, 4, 6, 8, 46, 47, 48] [] (fr' := [(2, .pointer (some ⟨p0_0, 0, none⟩)), (3, .slice p1_2.1 x1_2.length p1_2.2), (4, .pointer (some ⟨p2_1, 0, none⟩)), (6, .int .i64 x4_4.2.1), (8, .int .i64 x9_1.1), (46, .bool false), (47, .slice p4_4.1 x4_4.1.length p4_4.2), (48, .int .i64 (x4_4.1.length : Int))]) (bx' := [⟨p2_1, [.slice g1.1 s1.1.length g1.2, .int .i64 s1.2, .bool false, .bool true], 79⟩, ⟨p0_0, [.slice none 0 0, .int .i64 0, .bool false, .bool false], 79⟩]) (by kernel_rfl) ?_
         refine O.q (v := .bool false) (some 49) (Qu.eqv (u := .bool ((x4_4.1.length : Int) != 8)) (v := .bool false) (0, 0) [] (by kernel_rfl) (congrArg Value.bool hc19)) (by kernel_rfl) ?_
         refine O.pure 3 [] [2, 3, 4, 6, 8, 47, 48, 49, 51, 52] [] (fr' := [(2, .pointer (some ⟨p0_0, 0, none⟩)), (3, .slice p1_2.1 x1_2.length p1_2.2), (4, .pointer (some ⟨p2_1, 0, none⟩)), (6, .int .i64 x4_4.2.1), (8, .int .i64 x9_1.1), (47, .slice p4_4.1 x4_4.1.length p4_4.2), (48, .int .i64 (x4_4.1.length : Int)), (49, .bool false), (51, .bool false), (52, .int .i64 x9_1.1)]) (bx' := [⟨p2_1, [.slice g1.1 s1.1.length g1.2, .int .i64 s1.2, .bool false, .bool true], 79⟩, ⟨p0_0, [.slice none 0 0, .int .i64 0, .bool false, .bool false], 79⟩]) (by kernel_rfl) ?_
         refine O.q (v := .bool false) (some 53) (Qu.eqv (u := .bool (decide (x9_1.1 < 1))) (v := .bool false) (0, 0) [] (by kernel_rfl) (congrArg Value.bool hc20)) (by kernel_rfl) ?_
         refine O.pure 3 [] [2, 3, 4, 6, 8, 47, 48, 49, 52, 53, 55, 56] [] (fr' := [(2, .pointer (some ⟨p0_0, 0, none⟩)), (3, .slice p1_2.1 x1_2.length p1_2.2), (4, .pointer (some ⟨p2_1, 0, none⟩)), (6, .int .i64 x4_4.2.1), (8, .int .i64 x9_1.1), (47, .slice p4_4.1 x4_4.1.length p4_4.2), (48, .int .i64 (x4_4.1.length : Int)), (49, .bool false), (52, .int .i64 x9_1.1), (53, .bool false), (55, .bool false), (56, .int .i64 x9_1.1)]) (bx' := [⟨p2_1, [.slice g1.1 s1.1.length g1.2, .int .i64 s1.2, .bool false, .bool true], 79⟩, ⟨p0_0, [.slice none 0 0, .int .i64 0, .bool false, .bool false], 79⟩]) (by kernel_rfl) ?_
         refine O.q (v := .bool false) (some 57) (Qu.eqv (u := .bool (decide (x9_1.1 > 1099511627776))) (v := .bool false) (0, 0) [] (by kernel_rfl) (congrArg Value.bool hc21)) (by kernel_rfl) ?_
         refine O.pure 5 [(0, 0)] [2, 3, 4, 6, 8, 47, 48, 49, 52, 53, 56, 57, 59, 60, 61, 62] [p2_1, 0] (fr' := [(2, .pointer (some ⟨p0_0, 0, none⟩)), (3, .slice p1_2.1 x1_2.length p1_2.2), (4, .pointer (some ⟨p2_1, 0, none⟩)), (6, .int .i64 x4_4.2.1), (8, .int .i64 x9_1.1), (47, .slice p4_4.1 x4_4.1.length p4_4.2), (48, .int .i64 (x4_4.1.length : Int)), (49, .bool false), (52, .int .i64 x9_1.1), (53, .bool false), (56, .int .i64 x9_1.1), (57, .bool false), (59, .bool false), (60, .pointer (some ⟨p2_1, 0, none⟩)), (61, .slice g1.1 s1.1.length g1.2), (62, .int .i64 (s1.1.length : Int))]) (bx' := [⟨p2_1, [.slice g1.1 s1.1.length g1.2, .int .i64 s1.2, .bool false, .bool true], 79⟩, ⟨p0_0, [.slice none 0 0, .int .i64 0, .bool false, .bool false], 79⟩]) (by kernel_rfl) ?_
         refine O.q (v := .bool false) (some 63) (Qu.eqv (u := .bool (decide ((s1.1.length : Int) > 0))) (v := .bool false) (0, 0) [] (by kernel_rfl) (congrArg Value.bool hc22)) (by kernel_rfl) ?_
         refine O.pure 13 [] [2, 3, 4, 6, 8, 47, 48, 49, 52, 53, 56, 57, 60, 61, 62, 63, 64, 65, 66, 67, 68, 69, 70, 71, 72, 73, 74, 75, 76] [] (fr' := [(2, .pointer (some ⟨p0_0, 0, none⟩)), (3, .slice p1_2.1 x1_2.length p1_2.2), (4, .pointer (some ⟨p2_1, 0, none⟩)), (6, .int .i64 x4_4.2.1), (8, .int .i64 x9_1.1), (47, .slice p4_4.1 x4_4.1.length p4_4.2), (48, .int .i64 (x4_4.1.length : Int)), (49, .bool false), (52, .int .i64 x9_1.1), (53, .bool false), (56, .int .i64 x9_1.1), (57, .bool false), (60, .pointer (some ⟨p2_1, 0, none⟩)), (61, .slice g1.1 s1.1.length g1.2), (62, .int .i64 (s1.1.length : Int)), (63, .bool false), (64, .bool false), (65, undef), (66, undef), (67, undef), (68, undef), (69, undef), (70, undef), (71, undef), (72, undef), (73, undef), (74, undef), (75, .bool false), (76, .bool false)]) (bx' := [⟨p2_1, [.slice g1.1 s1.1.length g1.2, .int .i64 s1.2, .bool false, .bool true], 79⟩, ⟨p0_0, [.slice none 0 0, .int .i64 0, .bool false, .bool false], 79⟩]) (by kernel_rfl) ?_
         refine O.nil (by kernel_rfl) ?_
         refine J.cond (o := .tmp 76) false (by kernel_rfl) (by kernel_rfl) ?_
         refine J.skip (by kernel_rfl) ?_
         refine J.seq (by kernel_rfl) ?_
         obtain ⟨y13_4, hy13_4, H⟩ := bindE H
         have hy13_4a := (appE hy13_4).1
         refine J.region (by kernel_rfl) ?_
         refine O.pure 3 [(0, 0)] [2, 3, 4, 6, 47, 48, 49, 52, 53, 56, 57, 60, 61, 62, 63, 64, 65, 66, 67, 68, 69, 70, 71, 72, 73, 74, 75, 80, 81] [p2_1, 0] (fr' := [(2, .pointer (some ⟨p0_0, 0, none⟩)), (3, .slice p1_2.1 x1_2.length p1_2.2), (4, .pointer (some ⟨p2_1, 0, none⟩)), (6, .int .i64 x4_4.2.1), (47, .slice p4_4.1 x4_4.1.length p4_4.2), (48, .int .i64 (x4_4.1.length : Int)), (49, .bool false), (52, .int .i64 x9_1.1), (53, .bool false), (56, .int .i64 x9_1.1), (57, .bool false), (60, .pointer (some ⟨p2_1, 0, none⟩)), (61, .slice g1.1 s1.1.length g1.2), (62, .int .i64 (s1.1.length : Int)), (63, .bool false), (64, .bool false), (65, undef), (66, undef), (67, undef), (68, undef), (69, undef), (70, undef), (71, undef), (72, undef), (73, undef), (74, undef), (75, .bool false), (80, .slice g1.1 s1.1.length g1.2), (81, .int .i64 x9_1.1)]) (bx' := [⟨p2_1, [.slice g1.1 s1.1.length g1.2, .int .i64 s1.2, .bool false, .bool true], 79⟩, ⟨p0_0, [.slice none 0 0, .int .i64 0, .bool false, .bool false], 79⟩]) (by kernel_rfl) ?_
         refine O.e (some 82) (Ev.lit (t := 59) (len := 1) (parts := #[(0, .tmp 81)]) (ps := [(0, .int .i64 x9_1.1)]) (cs := [.int .i64 x9_1.1]) (e := 3) (Kd.int .i64) ([x9_1.1] : List Int) (by kernel_rfl) (by kernel_rfl) (by kernel_rfl) (by kernel_rfl) (by kernel_rfl) (by decide) (fun w' hφ => (Els.cons (c := [.int .i64 x9_1.1]) (rfl) (Els.nil _ _ _)))) (by kernel_rfl) (fun p13_3 => ?_)
         refine O.e (some 83) (Ev.appLit (x := .tmp 80) (y := .tmp 82) (t := 59) (bytes := 8) (by kernel_rfl) (by kernel_rfl) (by kernel_rfl) (by kernel_rfl) (by kernel_rfl) (by decide) hy13_4a) (by kernel_rfl) (fun p13_4 => ?_)
         refine O.pure 2 [(0, 0)] [2, 3, 4, 6, 47, 48, 49, 52, 53, 56, 57, 60, 61, 62, 63, 64, 65, 66, 67, 68, 69, 70, 71, 72, 73, 74, 75] [p2_1, 0] (fr' := [(2, .pointer (some ⟨p0_0, 0, none⟩)), (3, .slice p1_2.1 x1_2.length p1_2.2), (4, .pointer (some ⟨p2_1, 0, none⟩)), (6, .int .i64 x4_4.2.1), (47, .slice p4_4.1 x4_4.1.length p4_4.2), (48, .int .i64 (x4_4.1.length : Int)), (49, .bool false), (52, .int .i64 x9_1.1), (53, .bool false), (56, .int .i64 x9_1.1), (57, .bool false), (60, .pointer (some ⟨p2_1, 0, none⟩)), (61, .slice g1.1 s1.1.length g1.2), (62, .int .i64 (s1.1.length : Int)), (63, .bool false), (64, .bool false), (65, undef), (66, undef), (67, undef), (68, undef), (69, undef), (70, undef), (71, undef), (72, undef), (73, undef), (74, undef), (75, .bool false)]) (bx' := [⟨p2_1, [.slice p13_4.1 (s1.1 ++ ([x9_1.1] : List Int)).length p13_4.2, .int .i64 s1.2, .bool false, .bool true], 79⟩, ⟨p0_0, [.slice none 0 0, .int .i64 0, .bool false, .bool false], 79⟩]) (by kernel_rfl) ?_
         refine O.nil (by kernel_rfl) ?_
         refine J.region (by kernel_rfl) ?_
         refine O.pure 6 [(0, 1), (0, 1)] [2, 3, 4, 47, 48, 49, 52, 53, 56, 57, 60, 61, 62, 63, 64, 65, 66, 67, 68, 69, 70, 71, 72, 73, 74, 75] [p2_1, 1, p2_1, 1] (fr' := [(2, .pointer (some ⟨p0_0, 0, none⟩)), (3, .slice p1_2.1 x1_2.length p1_2.2), (4, .pointer (some ⟨p2_1, 0, none⟩)), (47, .slice p4_4.1 x4_4.1.length p4_4.2), (48, .int .i64 (x4_4.1.length : Int)), (49, .bool false), (52, .int .i64 x9_1.1), (53, .bool false), (56, .int .i64 x9_1.1), (57, .bool false), (60, .pointer (some ⟨p2_1, 0, none⟩)), (61, .slice g1.1 s1.1.length g1.2), (62, .int .i64 (s1.1.length : Int)), (63, .bool false), (64, .bool false), (65, undef), (66, undef), (67, undef), (68, undef), (69, undef), (70, undef), (71, undef), (72, undef), (73, undef), (74, undef), (75, .bool false)]) (bx' := [⟨p2_1, [.slice p13_4.1 (s1.1 ++ ([x9_1.1] : List Int)).length p13_4.2, .int .i64 (IntKind.wrap .i64 (s1.2 + x4_4.2.1)), .bool false, .bool true], 79⟩, ⟨p0_0, [.slice none 0 0, .int .i64 0, .bool false, .bool false], 79⟩]) (by kernel_rfl) ?_
         refine O.nil (by kernel_rfl) ?_
         refine J.out ?_
         exact J.conv2 [2, 3, 4] [2, 3] [0, 1] [0] (by kernel_rfl) (by kernel_rfl) (by kernel_rfl) (by kernel_rfl) (by decide) (ih1 ((s1.1 ++ ([x9_1.1] : List Int)), (IntKind.wrap .i64 (s1.2 + x4_4.2.1))) p13_4 H)
  ·refine J.condF (x := .tmp 18) (t := (decide (s1.2 < (x1_2.length : Int)))) (by kernel_rfl) (by kernel_rfl) hc16 ?_
   refine J.exit (id := 0) (by kernel_rfl) rfl ?_
   refine J.seq (by kernel_rfl) ?_
   refine J.region (by kernel_rfl) ?_
   refine O.pure 2 [(0, 0), (1, 0)] [2] [p2_1, 0, p0_0, 0] (fr' := [(2, .pointer (some ⟨p0_0, 0, none⟩))]) (bx' := [⟨p2_1, [.slice g1.1 s1.1.length g1.2, .int .i64 s1.2, .bool false, .bool true], 79⟩, ⟨p0_0, [.slice g1.1 s1.1.length g1.2, .int .i64 s1.2, .bool false, .bool true], 79⟩]) (by kernel_rfl) ?_
   refine O.nil (by kernel_rfl) ?_
   obtain rfl := Option.some.inj H
   exact J.doneS [(1, 0)] [p0_0, 0] [] [] [0] g1 (vs := [.agg #[.slice g1.1 s1.1.length g1.2, .int .i64 s1.2, .bool false, .bool true]]) (by kernel_rfl) (by kernel_rfl) (by kernel_rfl) (by kernel_rfl) (by kernel_rfl) (by decide)
 ·refine J.nilrow (Kd.int .i64) 3 ?_
  exact J.conv2 [2, 3, 4] [0, 2] [0, 1] [0] (by kernel_rfl) (by kernel_rfl) (by kernel_rfl) (by kernel_rfl) (by decide) h_
/-! ### haywain/haywainref14.last: function 35 -/
def haywainref14_last.f (K : Nat) (a0 : S79) : Option Int := cond ((a0.f0.length : Int) == 0) (some (0)) ((idxO a0.f0 (IntKind.wrap .i64 ((a0.f0.length : Int) - 1))).bind fun x3_6 => some (x3_6))
set_option maxRecDepth 100000 in
set_option maxHeartbeats 1000000 in
theorem haywainref14_last.con (K : Nat) (a0 : S79) (h0 : Hd) (r : Int) (X : Nat → Nat → Prop) (w : World) (hS : St X w [] [] [] [] [Rd (Kd.int .i64) h0.1 h0.2 a0.f0] w) (H : haywainref14_last.f K a0 = some r) :
    Cn Try.prog 35 [.agg #[.slice h0.1 a0.f0.length h0.2, .int .i64 a0.f1, .bool a0.f2, .bool a0.f3]] X w [] (fun i : Unit => .int .i64 r) (fun i => []) (fun i => []) (fun i => []) := by
 refine Cn.of Try.func35 (by kernel_rfl) hS ?_
 unfold haywainref14_last.f at H
 refine J.seq (by kernel_rfl) ?_
 refine J.region (by kernel_rfl) ?_
 refine O.e (some 1) (Ev.box (t := 79) (x := .tmp 0) (v := .agg #[.slice h0.1 a0.f0.length h0.2, .int .i64 a0.f1, .bool a0.f2, .bool a0.f3]) (by kernel_rfl) (by kernel_rfl)) (by kernel_rfl) (fun p0_0 => ?_)
 refine O.pure 1 [] [1] [] (fr' := [(1, .pointer (some ⟨p0_0, 0, none⟩))]) (bx' := [⟨p0_0, [.slice h0.1 a0.f0.length h0.2, .int .i64 a0.f1, .bool a0.f2, .bool a0.f3], 79⟩]) (by kernel_rfl) ?_
 refine O.nil (by kernel_rfl) ?_
 refine J.seq (by kernel_rfl) ?_
 refine J.seq (by kernel_rfl) ?_
 refine J.region (by kernel_rfl) ?_
 refine O.pure 4 [(0, 0)] [1, 6] [p0_0, 0] (fr' := [(1, .pointer (some ⟨p0_0, 0, none⟩)), (6, .bool ((a0.f0.length : Int) == 0))]) (bx' := [⟨p0_0, [.slice h0.1 a0.f0.length h0.2, .int .i64 a0.f1, .bool a0.f2, .bool a0.f3], 79⟩]) (by kernel_rfl) ?_
 refine O.nil (by kernel_rfl) ?_
 rcases condE H with ⟨hc1, H⟩ | ⟨hc1, H⟩
 ·refine J.condT (x := .tmp 6) (t := ((a0.f0.length : Int) == 0)) (by kernel_rfl) (by kernel_rfl) hc1 ?_
  refine J.seq (by kernel_rfl) ?_
  refine J.region (by kernel_rfl) ?_
  refine O.pure 1 [] [2] [] (fr' := [(2, .int .i64 0)]) (bx' := [⟨p0_0, [.slice h0.1 a0.f0.length h0.2, .int .i64 a0.f1, .bool a0.f2, .bool a0.f3], 79⟩]) (by kernel_rfl) ?_
  refine O.nil (by kernel_rfl) ?_
  obtain rfl := Option.some.inj H
  exact J.doneS [] [] [] [] [] () (vs := [.int .i64 0]) (by kernel_rfl) (by kernel_rfl) (by kernel_rfl) (by kernel_rfl) (by kernel_rfl) (by decide)
 ·refine J.condF (x := .tmp 6) (t := ((a0.f0.length : Int) == 0)) (by kernel_rfl) (by kernel_rfl) hc1 ?_
  refine J.skip (by kernel_rfl) ?_
  refine J.seq (by kernel_rfl) ?_
  obtain ⟨x3_6, hx3_6, H⟩ := bindE H
  obtain ⟨hx3_6a, hx3_6⟩ := idxE hx3_6
  refine J.region (by kernel_rfl) ?_
  refine O.pure 6 [(0, 0), (0, 0)] [8, 12] [p0_0, 0, p0_0, 0] (fr' := [(8, .slice h0.1 a0.f0.length h0.2), (12, .int .i64 (IntKind.wrap .i64 ((a0.f0.length : Int) - 1)))]) (bx' := [⟨p0_0, [.slice h0.1 a0.f0.length h0.2, .int .i64 a0.f1, .bool a0.f2, .bool a0.f3], 79⟩]) (by kernel_rfl) ?_
  refine O.open (d := (Kd.int .i64)) (h := h0) (i := (IntKind.wrap .i64 ((a0.f0.length : Int) - 1))) 0 rfl hx3_6 (Lay.int _ _) (fun p3_6 hp3_6A => ?_)
  refine O.q (v := .pointer (some ⟨p3_6.1, p3_6.2.1 + (IntKind.wrap .i64 ((a0.f0.length : Int) - 1)).toNat * 1, none⟩)) (some 13) (Qu.idx (t := 59) (x := .tmp 8) (y := .tmp 12) (c := h0.2) (kk := .i64) (sz := 1) (by kernel_rfl) (by kernel_rfl) (by kernel_rfl) (by kernel_rfl) hx3_6a (idx_lt hx3_6) hp3_6A) (by kernel_rfl) ?_
  refine O.pure 2 [(1, 0)] [2] [p3_6.1, p3_6.2.1 + (IntKind.wrap .i64 ((a0.f0.length : Int) - 1)).toNat * 1] (fr' := [(2, .int .i64 x3_6)]) (bx' := [⟨p0_0, [.slice h0.1 a0.f0.length h0.2, .int .i64 a0.f1, .bool a0.f2, .bool a0.f3], 79⟩]) (by kernel_rfl) ?_
  refine O.nil (by kernel_rfl) ?_
  obtain rfl := Option.some.inj H
  exact J.doneS [] [] [] [] [] () (vs := [.int .i64 x3_6]) (by kernel_rfl) (by kernel_rfl) (by kernel_rfl) (by kernel_rfl) (by kernel_rfl) (by decide)
/-! ### haywain/haywainref14.Last: function 12 -/
def haywainref14_Last.f (K : Nat) (a0 : List S85) : Option (Int × (List Int) × Int) := (haywainref13_Good.f K a0).bind fun x1_1 => (haywainref14_List.f K x1_1).bind fun x2_1 => cond (!x2_1.f3) (some ((0, ([] : List Int), 2))) ((haywainref14_last.f K x2_1).bind fun x5_1 => cond (x5_1 == 0) (some ((0, ([] : List Int), 4))) ((haywainref14_File.f K x5_1).bind fun x8_2 => (haywainref13_Get.f K x1_1 x8_2).bind fun x8_3 => (haywainref02_TakeFrame.f K x8_3).bind fun x9_1 => cond (x9_1.2.2 != 0) (some ((0, ([] : List Int), 2))) (cond (x9_1.2.1 != (x8_3.length : Int)) (some ((0, ([] : List Int), 2))) (some ((x5_1, x9_1.1, 0))))))
set_option maxRecDepth 100000 in
set_option maxHeartbeats 1000000 in
theorem haywainref14_Last.con (K : Nat) (a0 : List S85) (h0 : Hd) (r : (Int × (List Int) × Int)) (X : Nat → Nat → Prop) (w : World) (hS : St X w [] [] [] [] [Rd kd85 h0.1 h0.2 a0] w) (H : haywainref14_Last.f K a0 = some r) :
    Cn Try.prog 12 [.slice h0.1 a0.length h0.2] X w [] (fun i : Hd => .tuple #[.int .i64 r.1, .slice i.1 r.2.1.length i.2, .int .i64 r.2.2]) (fun i => []) (fun i => []) (fun i => [Rd (Kd.int .u8) i.1 i.2 r.2.1]) := by
 refine Cn.of Try.func12 (by kernel_rfl) hS ?_
 unfold haywainref14_Last.f at H
 refine J.seq (by kernel_rfl) ?_
 refine J.region (by kernel_rfl) ?_
 refine O.pure 3 [] [0] [] (fr' := [(0, .slice h0.1 a0.length h0.2)]) (bx' := []) (by kernel_rfl) ?_
 refine O.nil (by kernel_rfl) ?_
 refine J.seq (by kernel_rfl) ?_
 obtain ⟨x1_1, hx1_1, H⟩ := bindE H
 refine J.region (by kernel_rfl) ?_
 refine O.pure 1 [] [0, 11] [] (fr' := [(0, .slice h0.1 a0.length h0.2), (11, .slice h0.1 a0.length h0.2)]) (bx' := []) (by kernel_rfl) ?_
 refine O.e (some 12) (Ev.call0 (xs := [.tmp 11]) [0] (by kernel_rfl) (by kernel_rfl) (fun w hS => haywainref13_Good.con K a0 h0  _ _ w hS hx1_1)) (by kernel_rfl) (fun p1_1 => ?_)
 refine O.pure 1 [] [0] [] (fr' := [(0, .slice p1_1.1 x1_1.length p1_1.2)]) (bx' := []) (by kernel_rfl) ?_
 refine O.nil (by kernel_rfl) ?_
 refine J.seq (by kernel_rfl) ?_
 obtain ⟨x2_1, hx2_1, H⟩ := bindE H
 refine J.region (by kernel_rfl) ?_
 refine O.pure 1 [] [0, 13] [] (fr' := [(0, .slice p1_1.1 x1_1.length p1_1.2), (13, .slice p1_1.1 x1_1.length p1_1.2)]) (bx' := []) (by kernel_rfl) ?_
 refine O.e (some 14) (Ev.call0 (xs := [.tmp 13]) [0] (by kernel_rfl) (by kernel_rfl) (fun w hS => haywainref14_List.con K x1_1 p1_1  _ _ w hS hx2_1)) (by kernel_rfl) (fun p2_1 => ?_)
 refine O.e (some 5) (Ev.alloc (t := 79) (z := .agg #[.slice none 0 0, .int .i64 0, .bool false, .bool false]) (by kernel_rfl) (by kernel_rfl)) (by kernel_rfl) (fun p2_2 => ?_)
 refine O.pure 1 [(0, 0)] [0, 5] [p2_2, 0] (fr' := [(0, .slice p1_1.1 x1_1.length p1_1.2), (5, .pointer (some ⟨p2_2, 0, none⟩))]) (bx' := [⟨p2_2, [.slice p2_1.1 x2_1.f0.length p2_1.2, .int .i64 x2_1.f1, .bool x2_1.f2, .bool x2_1.f3], 79⟩]) (by kernel_rfl) ?_
 refine O.nil (by kernel_rfl) ?_
 refine J.seq (by kernel_rfl) ?_
 refine J.seq (by kernel_rfl) ?_
 refine J.region (by kernel_rfl) ?_
 refine O.pure 3 [(0, 3)] [0, 5, 17] [p2_2, 3] (fr' := [(0, .slice p1_1.1 x1_1.length p1_1.2), (5, .pointer (some ⟨p2_2, 0, none⟩)), (17, .bool (!x2_1.f3))]) (bx' := [⟨p2_2, [.slice p2_1.1 x2_1.f0.length p2_1.2, .int .i64 x2_1.f1, .bool x2_1.f2, .bool x2_1.f3], 79⟩]) (by kernel_rfl) ?_
 refine O.nil (by kernel_rfl) ?_
 rcases condE H with ⟨hc1, H⟩ | ⟨hc1, H⟩
 ·refine J.condT (x := .tmp 17) (t := (!x2_1.f3)) (by kernel_rfl) (by kernel_rfl) hc1 ?_
  refine J.seq (by kernel_rfl) ?_
  refine J.region (by kernel_rfl) ?_
  refine O.pure 3 [] [2, 3, 4] [] (fr' := [(2, .int .i64 0), (3, .slice none 0 0), (4, .int .i64 2)]) (bx' := [⟨p2_2, [.slice p2_1.1 x2_1.f0.length p2_1.2, .int .i64 x2_1.f1, .bool x2_1.f2, .bool x2_1.f3], 79⟩]) (by kernel_rfl) ?_
  refine O.nil (by kernel_rfl) ?_
  obtain rfl := Option.some.inj H
  refine J.nilF (Kd.int .u8) ?_
  exact J.doneS [] [] [0] [] [] (none, 0) (vs := [.int .i64 0, .slice none 0 0, .int .i64 2]) (by kernel_rfl) (by kernel_rfl) (by kernel_rfl) (by kernel_rfl) (by kernel_rfl) (by decide)
 ·refine J.condF (x := .tmp 17) (t := (!x2_1.f3)) (by kernel_rfl) (by kernel_rfl) hc1 ?_
  refine J.skip (by kernel_rfl) ?_
  refine J.seq (by kernel_rfl) ?_
  obtain ⟨x5_1, hx5_1, H⟩ := bindE H
  refine J.region (by kernel_rfl) ?_
  refine O.pure 1 [(0, 0)] [0, 18] [p2_2, 0] (fr' := [(0, .slice p1_1.1 x1_1.length p1_1.2), (18, .agg #[.slice p2_1.1 x2_1.f0.length p2_1.2, .int .i64 x2_1.f1, .bool x2_1.f2, .bool x2_1.f3])]) (bx' := [⟨p2_2, [.slice p2_1.1 x2_1.f0.length p2_1.2, .int .i64 x2_1.f1, .bool x2_1.f2, .bool x2_1.f3], 79⟩]) (by kernel_rfl) ?_
  refine O.e (some 19) (Ev.callLb (xs1 := [.tmp 18]) [0] (fun w hS => (hS.rowsel [0] rfl (by decide)).freezeL (hh := p2_1) (m := x2_1.f0.length) (xs := x2_1.f0) rfl) (by kernel_rfl) (by kernel_rfl) (fun _ q hq => by cases hq) (fun w hS => haywainref14_last.con K x2_1 p2_1  _ _ w hS hx5_1)) (by kernel_rfl) (fun _ => ?_)
  refine O.pure 1 [] [0, 6] [] (fr' := [(0, .slice p1_1.1 x1_1.length p1_1.2), (6, .int .i64 x5_1)]) (bx' := [⟨p2_2, [.slice p2_1.1 x2_1.f0.length p2_1.2, .int .i64 x2_1.f1, .bool x2_1.f2, .bool x2_1.f3], 79⟩]) (by kernel_rfl) ?_
  refine O.nil (by kernel_rfl) ?_
  refine J.seq (by kernel_rfl) ?_
  refine J.seq (by kernel_rfl) ?_
  refine J.region (by kernel_rfl) ?_
  refine O.pure 2 [] [0, 6, 21] [] (fr' := [(0, .slice p1_1.1 x1_1.length p1_1.2), (6, .int .i64 x5_1), (21, .bool (x5_1 == 0))]) (bx' := [⟨p2_2, [.slice p2_1.1 x2_1.f0.length p2_1.2, .int .i64 x2_1.f1, .bool x2_1.f2, .bool x2_1.f3], 79⟩]) (by kernel_rfl) ?_
  refine O.nil (by kernel_rfl) ?_
  rcases condE H with ⟨hc2, H⟩ | ⟨hc2, H⟩
  ·refine J.condT (x := .tmp 21) (t := (x5_1 == 0)) (by kernel_rfl) (by kernel_rfl) hc2 ?_
   refine J.seq (by kernel_rfl) ?_
   refine J.region (by kernel_rfl) ?_
   refine O.pure 3 [] [2, 3, 4] [] (fr' := [(2, .int .i64 0), (3, .slice none 0 0), (4, .int .i64 4)]) (bx' := [⟨p2_2, [.slice p2_1.1 x2_1.f0.length p2_1.2, .int .i64 x2_1.f1, .bool x2_1.f2, .bool x2_1.f3], 79⟩]) (by kernel_rfl) ?_
   refine O.nil (by kernel_rfl) ?_
   obtain rfl := Option.some.inj H
   refine J.nilF (Kd.int .u8) ?_
   exact J.doneS [] [] [0] [] [] (none, 0) (vs := [.int .i64 0, .slice none 0 0, .int .i64 4]) (by kernel_rfl) (by kernel_rfl) (by kernel_rfl) (by kernel_rfl) (by kernel_rfl) (by decide)
  ·refine J.condF (x := .tmp 21) (t := (x5_1 == 0)) (by kernel_rfl) (by kernel_rfl) hc2 ?_
   refine J.skip (by kernel_rfl) ?_
   refine J.seq (by kernel_rfl) ?_
   obtain ⟨x8_2, hx8_2, H⟩ := bindE H
   obtain ⟨x8_3, hx8_3, H⟩ := bindE H
   refine J.region (by kernel_rfl) ?_
   refine O.pure 2 [] [6, 22, 23] [] (fr' := [(6, .int .i64 x5_1), (22, .slice p1_1.1 x1_1.length p1_1.2), (23, .int .i64 x5_1)]) (bx' := [⟨p2_2, [.slice p2_1.1 x2_1.f0.length p2_1.2, .int .i64 x2_1.f1, .bool x2_1.f2, .bool x2_1.f3], 79⟩]) (by kernel_rfl) ?_
   refine O.e (some 24) (Ev.call0 (xs := [.tmp 23]) [] (by kernel_rfl) (by kernel_rfl) (fun w hS => haywainref14_File.con K x5_1  _ _ w hS hx8_2)) (by kernel_rfl) (fun _ => ?_)
   refine O.e (some 25) (Ev.call0 (xs := [.tmp 22, .tmp 24]) [0] (by kernel_rfl) (by kernel_rfl) (fun w hS => haywainref13_Get.con K x1_1 x8_2 p1_1  _ _ w hS hx8_3)) (by kernel_rfl) (fun p8_3 => ?_)
   refine O.pure 1 [] [6, 7] [] (fr' := [(6, .int .i64 x5_1), (7, .slice p8_3.1 x8_3.length p8_3.2)]) (bx' := [⟨p2_2, [.slice p2_1.1 x2_1.f0.length p2_1.2, .int .i64 x2_1.f1, .bool x2_1.f2, .bool x2_1.f3], 79⟩]) (by kernel_rfl) ?_
   refine O.nil (by kernel_rfl) ?_
   refine J.seq (by kernel_rfl) ?_
   obtain ⟨x9_1, hx9_1, H⟩ := bindE H
   refine J.region (by kernel_rfl) ?_
   refine O.pure 1 [] [6, 7, 27] [] (fr' := [(6, .int .i64 x5_1), (7, .slice p8_3.1 x8_3.length p8_3.2), (27, .slice p8_3.1 x8_3.length p8_3.2)]) (bx' := [⟨p2_2, [.slice p2_1.1 x2_1.f0.length p2_1.2, .int .i64 x2_1.f1, .bool x2_1.f2, .bool x2_1.f3], 79⟩]) (by kernel_rfl) ?_
   refine O.e (some 28) (Ev.call0 (xs := [.tmp 27]) [0] (by kernel_rfl) (by kernel_rfl) (fun w hS => haywainref02_TakeFrame.con K x8_3 p8_3  _ _ w hS hx9_1)) (by kernel_rfl) (fun p9_1 => ?_)
   refine O.pure 7 [] [6, 7, 8, 9, 10] [] (fr' := [(6, .int .i64 x5_1), (7, .slice p8_3.1 x8_3.length p8_3.2), (8, .slice p9_1.1 x9_1.1.length p9_1.2), (9, .int .i64 x9_1.2.1), (10, .int .i64 x9_1.2.2)]) (bx' := [⟨p2_2, [.slice p2_1.1 x2_1.f0.length p2_1.2, .int .i64 x2_1.f1, .bool x2_1.f2, .bool x2_1.f3], 79⟩]) (by kernel_rfl) ?_
   refine O.nil (by kernel_rfl) ?_
   refine J.seq (by kernel_rfl) ?_
   refine J.seq (by kernel_rfl) ?_
   rcases condE H with ⟨hc3, H⟩ | ⟨hc3, H⟩
   ·refine J.region (by kernel_rfl) ?_
    refine O.pure 1 [] [6, 7, 8, 9, 32] [] (fr' := [(6, .int .i64 x5_1), (7, .slice p8_3.1 x8_3.length p8_3.2), (8, .slice p9_1.1 x9_1.1.length p9_1.2), (9, .int .i64 x9_1.2.1), (32, .int .i64 x9_1.2.2)]) (bx' := [⟨p2_2, [.slice p2_1.1 x2_1.f0.length p2_1.2, .int .i64 x2_1.f1, .bool x2_1.f2, .bool x2_1.f3], 79⟩]) (by kernel_rfl) ?_
    refine O.q (v := .bool true) (some 33) (Qu.eqv (u := .bool (x9_1.2.2 != 0)) (v := .bool true) (0, 0) [] (by kernel_rfl) (congrArg Value.bool hc3)) (by kernel_rfl) ?_
    refine O.pure 6 [] [6, 8, 39] [] (fr' := [(6, .int .i64 x5_1), (8, .slice p9_1.1 x9_1.1.length p9_1.2), (39, .bool true)]) (bx' := [⟨p2_2, [.slice p2_1.1 x2_1.f0.length p2_1.2, .int .i64 x2_1.f1, .bool x2_1.f2, .bool x2_1.f3], 79⟩]) (by kernel_rfl) ?_
    refine O.nil (by kernel_rfl) ?_
    refine J.cond (o := .tmp 39) true (by kernel_rfl) (by kernel_rfl) ?_
    refine J.seq (by kernel_rfl) ?_
    refine J.region (by kernel_rfl) ?_
    refine O.pure 3 [] [2, 3, 4] [] (fr' := [(2, .int .i64 0), (3, .slice none 0 0), (4, .int .i64 2)]) (bx' := [⟨p2_2, [.slice p2_1.1 x2_1.f0.length p2_1.2, .int .i64 x2_1.f1, .bool x2_1.f2, .bool x2_1.f3], 79⟩]) (by kernel_rfl) ?_
    refine O.nil (by kernel_rfl) ?_
    obtain rfl := Option.some.inj H
    refine J.nilF (Kd.int .u8) ?_
    exact J.doneS [] [] [0] [] [] (none, 0) (vs := [.int .i64 0, .slice none 0 0, .int .i64 2]) (by kernel_rfl) (by kernel_rfl) (by kernel_rfl) (by kernel_rfl) (by kernel_rfl) (by decide)
   ·refine J.region (by kernel_rfl) ?_
    refine O.pure 1 [] [6, 7, 8, 9, 32] [] (fr' := [(6, .int .i64 x5_1), (7, .slice p8_3.1 x8_3.length p8_3.2), (8, .slice p9_1.1 x9_1.1.length p9_1.2), (9, .int .i64 x9_1.2.1), (32, .int .i64 x9_1.2.2)]) (bx' := [⟨p2_2, [.slice p2_1.1 x2_1.f0.length p2_1.2, .int .i64 x2_1.f1, .bool x2_1.f2, .bool x2_1.f3], 79⟩]) (by kernel_rfl) ?_
    refine O.q (v := .bool false) (some 33) (Qu.eqv (u := .bool (x9_1.2.2 != 0)) (v := .bool false) (0, 0) [] (by kernel_rfl) (congrArg Value.bool hc3)) (by kernel_rfl) ?_
    refine O.pure 6 [] [6, 8, 39] [] (fr' := [(6, .int .i64 x5_1), (8, .slice p9_1.1 x9_1.1.length p9_1.2), (39, .bool (x9_1.2.1 != (x8_3.length : Int)))]) (bx' := [⟨p2_2, [.slice p2_1.1 x2_1.f0.length p2_1.2, .int .i64 x2_1.f1, .bool x2_1.f2, .bool x2_1.f3], 79⟩]) (by kernel_rfl) ?_
    refine O.nil (by kernel_rfl) ?_
    rcases condE H with ⟨hc4, H⟩ | ⟨hc4, H⟩
    ·refine J.condT (x := .tmp 39) (t := (x9_1.2.1 != (x8_3.length : Int))) (by kernel_rfl) (by kernel_rfl) hc4 ?_
     refine J.seq (by kernel_rfl) ?_
     refine J.region (by kernel_rfl) ?_
     refine O.pure 3 [] [2, 3, 4] [] (fr' := [(2, .int .i64 0), (3, .slice none 0 0), (4, .int .i64 2)]) (bx' := [⟨p2_2, [.slice p2_1.1 x2_1.f0.length p2_1.2, .int .i64 x2_1.f1, .bool x2_1.f2, .bool x2_1.f3], 79⟩]) (by kernel_rfl) ?_
     refine O.nil (by kernel_rfl) ?_
     obtain rfl := Option.some.inj H
     refine J.nilF (Kd.int .u8) ?_
     exact J.doneS [] [] [0] [] [] (none, 0) (vs := [.int .i64 0, .slice none 0 0, .int .i64 2]) (by kernel_rfl) (by kernel_rfl) (by kernel_rfl) (by kernel_rfl) (by kernel_rfl) (by decide)
    ·refine J.condF (x := .tmp 39) (t := (x9_1.2.1 != (x8_3.length : Int))) (by kernel_rfl) (by kernel_rfl) hc4 ?_
     refine J.skip (by kernel_rfl) ?_
     refine J.seq (by kernel_rfl) ?_
     refine J.region (by kernel_rfl) ?_
     refine O.pure 5 [] [2, 3, 4] [] (fr' := [(2, .int .i64 x5_1), (3, .slice p9_1.1 x9_1.1.length p9_1.2), (4, .int .i64 0)]) (bx' := [⟨p2_2, [.slice p2_1.1 x2_1.f0.length p2_1.2, .int .i64 x2_1.f1, .bool x2_1.f2, .bool x2_1.f3], 79⟩]) (by kernel_rfl) ?_
     refine O.nil (by kernel_rfl) ?_
     obtain rfl := Option.some.inj H
     exact J.doneS [] [] [0] [] [] p9_1 (vs := [.int .i64 x5_1, .slice p9_1.1 x9_1.1.length p9_1.2, .int .i64 0]) (by kernel_rfl) (by kernel_rfl) (by kernel_rfl) (by kernel_rfl) (by kernel_rfl) (by decide)
/-! ### haywain/haywainlaw13.As: function 13 -/
def haywainlaw13_As.l1 (K : Nat) (a0 : S24) : Nat → ((List S85) × Int) → Option (List S85)
  | 0, _ => none
  | k + 1, s1 => cond (decide (s1.2 < (a0.f0.length : Int))) ((idxO a0.f0 s1.2).bind fun x5_3 => (appO 48 s1.1 ([(⟨x5_3.f0, x5_3.f1, x5_3.f2⟩ : S85)] : List S85)).bind fun y6_9 => haywainlaw13_As.l1 K a0 k ((s1.1 ++ ([(⟨x5_3.f0, x5_3.f1, x5_3.f2⟩ : S85)] : List S85)), (IntKind.wrap .i64 (s1.2 + 1)))) (some (s1.1))
def haywainlaw13_As.f (K : Nat) (a0 : S24) : Option (List S85) := haywainlaw13_As.l1 K a0 K (([] : List S85), 0)
set_option maxRecDepth 100000 in
set_option maxHeartbeats 1000000 in
theorem haywainlaw13_As.con (K : Nat) (a0 : S24) (h0 : Hd) (r : (List S85)) (X : Nat → Nat → Prop) (w : World) (hS : St X w [] [] [] [] [Rd kd70 h0.1 h0.2 a0.f0] w) (H : haywainlaw13_As.f K a0 = some r) :
    Cn Try.prog 13 [.agg #[.slice h0.1 a0.f0.length h0.2]] X w [] (fun i : Hd => .slice i.1 r.length i.2) (fun i => []) (fun i => [mkRow kd85 85 (.slice i.1 r.length i.2) r]) (fun i => []) := by
 refine Cn.of Try.func13 (by kernel_rfl) hS ?_
 unfold haywainlaw13_As.f at H
 refine J.seq (by kernel_rfl) ?_
 refine J.region (by kernel_rfl) ?_
 refine O.e (some 1) (Ev.box (t := 24) (x := .tmp 0) (v := .agg #[.slice h0.1 a0.f0.length h0.2]) (by kernel_rfl) (by kernel_rfl)) (by kernel_rfl) (fun p0_0 => ?_)
 refine O.pure 1 [] [1] [] (fr' := [(1, .pointer (some ⟨p0_0, 0, none⟩))]) (bx' := [⟨p0_0, [.slice h0.1 a0.f0.length h0.2], 24⟩]) (by kernel_rfl) ?_
 refine O.nil (by kernel_rfl) ?_
 refine J.seq (by kernel_rfl) ?_
 refine J.region (by kernel_rfl) ?_
 refine O.pure 1 [] [1, 3] [] (fr' := [(1, .pointer (some ⟨p0_0, 0, none⟩)), (3, .slice none 0 0)]) (bx' := [⟨p0_0, [.slice h0.1 a0.f0.length h0.2], 24⟩]) (by kernel_rfl) ?_
 refine O.nil (by kernel_rfl) ?_
 refine J.seq (by kernel_rfl) ?_
 refine J.seq (by kernel_rfl) ?_
 refine J.region (by kernel_rfl) ?_
 refine O.pure 1 [] [1, 3, 4] [] (fr' := [(1, .pointer (some ⟨p0_0, 0, none⟩)), (3, .slice none 0 0), (4, .int .i64 0)]) (bx' := [⟨p0_0, [.slice h0.1 a0.f0.length h0.2], 24⟩]) (by kernel_rfl) ?_
 refine O.nil (by kernel_rfl) ?_
 refine J.block (id := 0) (by kernel_rfl) ?_
 refine J.loopI (σ := (List S85) × Int) (γ := Hd) (f := fun m_ s_ => haywainlaw13_As.l1 K a0 m_ s_) (fun s1 g1 => [(1, .pointer (some ⟨p0_0, 0, none⟩)), (3, .slice g1.1 s1.1.length g1.2), (4, .int .i64 s1.2)]) (fun s1 g1 => St X w [] [⟨p0_0, [.slice h0.1 a0.f0.length h0.2], 24⟩] [mkRow kd85 85 (.slice g1.1 s1.1.length g1.2) s1.1] [] [Rd kd70 h0.1 h0.2 a0.f0]) K (([] : List S85), 0) (none, 0) (by kernel_rfl) H (fun _ => rfl) (fun m_ s1 H ih1 g1 => ?_) (fun h_ => ?_)
 ·unfold haywainlaw13_As.l1 at H
  refine J.seq (by kernel_rfl) ?_
  refine J.seq (by kernel_rfl) ?_
  refine J.region (by kernel_rfl) ?_
  refine O.pure 5 [(0, 0)] [1, 3, 4, 10] [p0_0, 0] (fr' := [(1, .pointer (some ⟨p0_0, 0, none⟩)), (3, .slice g1.1 s1.1.length g1.2), (4, .int .i64 s1.2), (10, .bool (decide (s1.2 < (a0.f0.length : Int))))]) (bx' := [⟨p0_0, [.slice h0.1 a0.f0.length h0.2], 24⟩]) (by kernel_rfl) ?_
  refine O.nil (by kernel_rfl) ?_
  rcases condE H with ⟨hc4, H⟩ | ⟨hc4, H⟩
  ·refine J.condT (x := .tmp 10) (t := (decide (s1.2 < (a0.f0.length : Int)))) (by kernel_rfl) (by kernel_rfl) hc4 ?_
   refine J.skip (by kernel_rfl) ?_
   refine J.seq (by kernel_rfl) ?_
   refine J.block (id := 1) (by kernel_rfl) ?_
   refine J.seq (by kernel_rfl) ?_
   obtain ⟨x5_3, hx5_3, H⟩ := bindE H
   obtain ⟨hx5_3a, hx5_3⟩ := idxE hx5_3
   refine J.region (by kernel_rfl) ?_
   refine O.pure 3 [(0, 0)] [1, 3, 4, 14, 15] [p0_0, 0] (fr' := [(1, .pointer (some ⟨p0_0, 0, none⟩)), (3, .slice g1.1 s1.1.length g1.2), (4, .int .i64 s1.2), (14, .slice h0.1 a0.f0.length h0.2), (15, .int .i64 s1.2)]) (bx' := [⟨p0_0, [.slice h0.1 a0.f0.length h0.2], 24⟩]) (by kernel_rfl) ?_
   refine O.open (d := kd70) (h := h0) (i := s1.2) 0 rfl hx5_3 (op70 _) (fun p5_3 hp5_3A => ?_)
   refine O.q (v := .pointer (some ⟨p5_3.1, p5_3.2.1 + s1.2.toNat * 3, none⟩)) (some 16) (Qu.idx (t := 22) (x := .tmp 14) (y := .tmp 15) (c := h0.2) (kk := .i64) (sz := 3) (by kernel_rfl) (by kernel_rfl) (by kernel_rfl) (by kernel_rfl) hx5_3a (idx_lt hx5_3) hp5_3A) (by kernel_rfl) ?_
   refine O.pure 1 [(1, 0)] [1, 3, 4, 17] [p5_3.1, p5_3.2.1 + s1.2.toNat * 3] (fr' := [(1, .pointer (some ⟨p0_0, 0, none⟩)), (3, .slice g1.1 s1.1.length g1.2), (4, .int .i64 s1.2), (17, .agg #[.string x5_3.f0, .slice p5_3.2.2.1 x5_3.f1.length p5_3.2.2.2, .int .i64 x5_3.f2])]) (bx' := [⟨p0_0, [.slice h0.1 a0.f0.length h0.2], 24⟩]) (by kernel_rfl) ?_
   refine O.e (some 5) (Ev.alloc (t := 70) (z := .agg #[.string (⟨#[]⟩ : ByteArray), .slice none 0 0, .int .i64 0]) (by kernel_rfl) (by kernel_rfl)) (by kernel_rfl) (fun p5_5 => ?_)
   refine O.pure 1 [(0, 0)] [1, 3, 4, 5] [p5_5, 0] (fr' := [(1, .pointer (some ⟨p0_0, 0, none⟩)), (3, .slice g1.1 s1.1.length g1.2), (4, .int .i64 s1.2), (5, .pointer (some ⟨p5_5, 0, none⟩))]) (bx' := [⟨p5_5, [.string x5_3.f0, .slice p5_3.2.2.1 x5_3.f1.length p5_3.2.2.2, .int .i64 x5_3.f2], 70⟩, ⟨p0_0, [.slice h0.1 a0.f0.length h0.2], 24⟩]) (by kernel_rfl) ?_
   refine O.nil (by kernel_rfl) ?_
   obtain ⟨y6_9, hy6_9, H⟩ := bindE H
   have hy6_9a := (appE hy6_9).1
   refine J.region (by kernel_rfl) ?_
   refine O.pure 8 [(0, 0), (0, 1), (0, 2)] [1, 3, 4, 18, 25] [p5_5, 0, p5_5, 1, p5_5, 2] (fr' := [(1, .pointer (some ⟨p0_0, 0, none⟩)), (3, .slice g1.1 s1.1.length g1.2), (4, .int .i64 s1.2), (18, .slice g1.1 s1.1.length g1.2), (25, .agg #[.string x5_3.f0, .slice p5_3.2.2.1 x5_3.f1.length p5_3.2.2.2, .int .i64 x5_3.f2])]) (bx' := [⟨p5_5, [.string x5_3.f0, .slice p5_3.2.2.1 x5_3.f1.length p5_3.2.2.2, .int .i64 x5_3.f2], 70⟩, ⟨p0_0, [.slice h0.1 a0.f0.length h0.2], 24⟩]) (by kernel_rfl) ?_
   refine O.e (some 26) (Ev.lit (t := 33) (len := 1) (parts := #[(0, .tmp 25)]) (ps := [(0, .agg #[.string x5_3.f0, .slice p5_3.2.2.1 x5_3.f1.length p5_3.2.2.2, .int .i64 x5_3.f2])]) (cs := [.string x5_3.f0, .slice p5_3.2.2.1 x5_3.f1.length p5_3.2.2.2, .int .i64 x5_3.f2]) (e := 85) kd85 ([(⟨x5_3.f0, x5_3.f1, x5_3.f2⟩ : S85)] : List S85) (by kernel_rfl) (by kernel_rfl) (by kernel_rfl) (by kernel_rfl) (by kernel_rfl) (by decide) (fun w' hφ => (Els.cons (c := [.string x5_3.f0, .slice p5_3.2.2.1 x5_3.f1.length p5_3.2.2.2, .int .i64 x5_3.f2]) (⟨p5_3.2.2, rfl, hφ _ (List.mem_of_getElem? (i := 0) rfl)⟩) (Els.nil _ _ _)))) (by kernel_rfl) (fun p6_8 => ?_)
   refine O.e (some 27) (Ev.appLit (x := .tmp 18) (y := .tmp 26) (t := 33) (bytes := 48) (by kernel_rfl) (by kernel_rfl) (by kernel_rfl) (by kernel_rfl) (by kernel_rfl) (by decide) hy6_9a) (by kernel_rfl) (fun p6_9 => ?_)
   refine O.pure 1 [] [1, 3, 4] [] (fr' := [(1, .pointer (some ⟨p0_0, 0, none⟩)), (3, .slice p6_9.1 (s1.1 ++ ([(⟨x5_3.f0, x5_3.f1, x5_3.f2⟩ : S85)] : List S85)).length p6_9.2), (4, .int .i64 s1.2)]) (bx' := [⟨p5_5, [.string x5_3.f0, .slice p5_3.2.2.1 x5_3.f1.length p5_3.2.2.2, .int .i64 x5_3.f2], 70⟩, ⟨p0_0, [.slice h0.1 a0.f0.length h0.2], 24⟩]) (by kernel_rfl) ?_
   refine O.nil (by kernel_rfl) ?_
   refine J.out ?_
   refine J.region (by kernel_rfl) ?_
   refine O.pure 3 [] [1, 3, 4] [] (fr' := [(1, .pointer (some ⟨p0_0, 0, none⟩)), (3, .slice p6_9.1 (s1.1 ++ ([(⟨x5_3.f0, x5_3.f1, x5_3.f2⟩ : S85)] : List S85)).length p6_9.2), (4, .int .i64 (IntKind.wrap .i64 (s1.2 + 1)))]) (bx' := [⟨p5_5, [.string x5_3.f0, .slice p5_3.2.2.1 x5_3.f1.length p5_3.2.2.2, .int .i64 x5_3.f2], 70⟩, ⟨p0_0, [.slice h0.1 a0.f0.length h0.2], 24⟩]) (by kernel_rfl) ?_
   refine O.nil (by kernel_rfl) ?_
   exact J.conv2 [1, 3, 4] [1] [1] [0] (by kernel_rfl) (by kernel_rfl) (by kernel_rfl) (by kernel_rfl) (by decide) (ih1 ((s1.1 ++ ([(⟨x5_3.f0, x5_3.f1, x5_3.f2⟩ : S85)] : List S85)), (IntKind.wrap .i64 (s1.2 + 1))) p6_9 H)
  ·refine J.condF (x := .tmp 10) (t := (decide (s1.2 < (a0.f0.length : Int)))) (by kernel_rfl) (by kernel_rfl) hc4 ?_
   refine J.exit (id := 0) (by kernel_rfl) rfl ?_
   refine J.seq (by kernel_rfl) ?_
   refine J.region (by kernel_rfl) ?_
   refine O.pure 2 [] [2] [] (fr' := [(2, .slice g1.1 s1.1.length g1.2)]) (bx' := [⟨p0_0, [.slice h0.1 a0.f0.length h0.2], 24⟩]) (by kernel_rfl) ?_
   refine O.nil (by kernel_rfl) ?_
   obtain rfl := Option.some.inj H
   exact J.doneS [] [] [] [] [0] g1 (vs := [.slice g1.1 s1.1.length g1.2]) (by kernel_rfl) (by kernel_rfl) (by kernel_rfl) (by kernel_rfl) (by kernel_rfl) (by decide)
 ·refine J.nilrow kd85 85 ?_
  exact J.conv2 [1, 3, 4] [0] [0] [0] (by kernel_rfl) (by kernel_rfl) (by kernel_rfl) (by kernel_rfl) (by decide) h_
/-! ### haywain/haywainref13.Has: function 43 -/
def haywainref13_Has.l1 (K : Nat) (a0 : List S85) (a1 : ByteArray) : Nat → Int → Option Bool
  | 0, _ => none
  | k + 1, s1 => cond (decide (s1 < (a0.length : Int))) ((idxO a0 s1).bind fun x4_2 => cond (x4_2.f0.toList == a1.toList) (some (true)) (haywainref13_Has.l1 K a0 a1 k (IntKind.wrap .i64 (s1 + 1)))) (some (false))
def haywainref13_Has.f (K : Nat) (a0 : List S85) (a1 : ByteArray) : Option Bool := haywainref13_Has.l1 K a0 a1 K 0
set_option maxRecDepth 100000 in
set_option maxHeartbeats 1000000 in
theorem haywainref13_Has.con (K : Nat) (a0 : List S85) (a1 : ByteArray) (h0 : Hd) (r : Bool) (X : Nat → Nat → Prop) (w : World) (hS : St X w [] [] [] [] [Rd kd85 h0.1 h0.2 a0] w) (H : haywainref13_Has.f K a0 a1 = some r) :
    Cn Try.prog 43 [.slice h0.1 a0.length h0.2, .string a1] X w [] (fun i : Unit => .bool r) (fun i => []) (fun i => []) (fun i => []) := by
 refine Cn.of Try.func43 (by kernel_rfl) hS ?_
 unfold haywainref13_Has.f at H
 refine J.seq (by kernel_rfl) ?_
 refine J.region (by kernel_rfl) ?_
 refine O.pure 1 [] [0, 1] [] (fr' := [(0, .slice h0.1 a0.length h0.2), (1, .string a1)]) (bx' := []) (by kernel_rfl) ?_
 refine O.nil (by kernel_rfl) ?_
 refine J.seq (by kernel_rfl) ?_
 refine J.seq (by kernel_rfl) ?_
 refine J.region (by kernel_rfl) ?_
 refine O.pure 1 [] [0, 1, 5] [] (fr' := [(0, .slice h0.1 a0.length h0.2), (1, .string a1), (5, .int .i64 0)]) (bx' := []) (by kernel_rfl) ?_
 refine O.nil (by kernel_rfl) ?_
 refine J.block (id := 0) (by kernel_rfl) ?_
 refine J.loopI (σ := Int) (γ := Unit) (f := fun m_ s_ => haywainref13_Has.l1 K a0 a1 m_ s_) (fun s1 g1 => [(0, .slice h0.1 a0.length h0.2), (1, .string a1), (5, .int .i64 s1)]) (fun s1 g1 => St X w [] [] [] [] [Rd kd85 h0.1 h0.2 a0]) K 0 () (by kernel_rfl) H (fun _ => rfl) (fun m_ s1 H ih1 g1 => ?_) (fun h_ => ?_)
 ·unfold haywainref13_Has.l1 at H
  refine J.seq (by kernel_rfl) ?_
  refine J.seq (by kernel_rfl) ?_
  refine J.region (by kernel_rfl) ?_
  refine O.pure 4 [] [0, 1, 5, 9] [] (fr' := [(0, .slice h0.1 a0.length h0.2), (1, .string a1), (5, .int .i64 s1), (9, .bool (decide (s1 < (a0.length : Int))))]) (bx' := []) (by kernel_rfl) ?_
  refine O.nil (by kernel_rfl) ?_
  rcases condE H with ⟨hc6, H⟩ | ⟨hc6, H⟩
  ·refine J.condT (x := .tmp 9) (t := (decide (s1 < (a0.length : Int)))) (by kernel_rfl) (by kernel_rfl) hc6 ?_
   refine J.skip (by kernel_rfl) ?_
   refine J.seq (by kernel_rfl) ?_
   refine J.block (id := 1) (by kernel_rfl) ?_
   refine J.seq (by kernel_rfl) ?_
   obtain ⟨x4_2, hx4_2, H⟩ := bindE H
   obtain ⟨hx4_2a, hx4_2⟩ := idxE hx4_2
   refine J.region (by kernel_rfl) ?_
   refine O.pure 2 [] [0, 1, 5, 12, 13] [] (fr' := [(0, .slice h0.1 a0.length h0.2), (1, .string a1), (5, .int .i64 s1), (12, .slice h0.1 a0.length h0.2), (13, .int .i64 s1)]) (bx' := []) (by kernel_rfl) ?_
   refine O.open (d := kd85) (h := h0) (i := s1) 0 rfl hx4_2 (op85 _) (fun p4_2 hp4_2A => ?_)
   refine O.q (v := .pointer (some ⟨p4_2.1, p4_2.2.1 + s1.toNat * 3, none⟩)) (some 14) (Qu.idx (t := 33) (x := .tmp 12) (y := .tmp 13) (c := h0.2) (kk := .i64) (sz := 3) (by kernel_rfl) (by kernel_rfl) (by kernel_rfl) (by kernel_rfl) hx4_2a (idx_lt hx4_2) hp4_2A) (by kernel_rfl) ?_
   refine O.pure 4 [(0, 0)] [0, 1, 5, 18] [p4_2.1, p4_2.2.1 + s1.toNat * 3] (fr' := [(0, .slice h0.1 a0.length h0.2), (1, .string a1), (5, .int .i64 s1), (18, .bool (x4_2.f0.toList == a1.toList))]) (bx' := []) (by kernel_rfl) ?_
   refine O.nil (by kernel_rfl) ?_
   rcases condE H with ⟨hc7, H⟩ | ⟨hc7, H⟩
   ·refine J.condT (x := .tmp 18) (t := (x4_2.f0.toList == a1.toList)) (by kernel_rfl) (by kernel_rfl) hc7 ?_
    refine J.seq (by kernel_rfl) ?_
    refine J.region (by kernel_rfl) ?_
    refine O.pure 1 [] [4] [] (fr' := [(4, .bool true)]) (bx' := []) (by kernel_rfl) ?_
    refine O.nil (by kernel_rfl) ?_
    obtain rfl := Option.some.inj H
    exact J.doneS [] [] [] [] [] () (vs := [.bool true]) (by kernel_rfl) (by kernel_rfl) (by kernel_rfl) (by kernel_rfl) (by kernel_rfl) (by decide)
   ·refine J.condF (x := .tmp 18) (t := (x4_2.f0.toList == a1.toList)) (by kernel_rfl) (by kernel_rfl) hc7 ?_
    refine J.skip (by kernel_rfl) ?_
    refine J.out ?_
    refine J.region (by kernel_rfl) ?_
    refine O.pure 3 [] [0, 1, 5] [] (fr' := [(0, .slice h0.1 a0.length h0.2), (1, .string a1), (5, .int .i64 (IntKind.wrap .i64 (s1 + 1)))]) (bx' := []) (by kernel_rfl) ?_
    refine O.nil (by kernel_rfl) ?_
    exact J.conv2 [0, 1, 5] [1] [] [] (by kernel_rfl) (by kernel_rfl) (by kernel_rfl) (by kernel_rfl) (by decide) (ih1 (IntKind.wrap .i64 (s1 + 1)) () H)
  ·refine J.condF (x := .tmp 9) (t := (decide (s1 < (a0.length : Int)))) (by kernel_rfl) (by kernel_rfl) hc6 ?_
   refine J.exit (id := 0) (by kernel_rfl) rfl ?_
   refine J.seq (by kernel_rfl) ?_
   refine J.region (by kernel_rfl) ?_
   refine O.pure 1 [] [4] [] (fr' := [(4, .bool false)]) (bx' := []) (by kernel_rfl) ?_
   refine O.nil (by kernel_rfl) ?_
   obtain rfl := Option.some.inj H
   exact J.doneS [] [] [] [] [] () (vs := [.bool false]) (by kernel_rfl) (by kernel_rfl) (by kernel_rfl) (by kernel_rfl) (by kernel_rfl) (by decide)
 ·exact J.conv2 [0, 1, 5] [0] [] [] (by kernel_rfl) (by kernel_rfl) (by kernel_rfl) (by kernel_rfl) (by decide) h_
/-! ### haywain/haywainref02.Num: function 45 -/
def haywainref02_Num.f (K : Nat) (a0 : Int) : Option (List Int) := (haywainref02_Digits.f K (IntKind.wrap .u64 a0) 8).bind fun x1_2 => some (x1_2)
set_option maxRecDepth 100000 in
set_option maxHeartbeats 1000000 in
theorem haywainref02_Num.con (K : Nat) (a0 : Int) (r : (List Int)) (X : Nat → Nat → Prop) (w : World) (hS : St X w [] [] [] [] [] w) (H : haywainref02_Num.f K a0 = some r) :
    Cn Try.prog 45 [.int .i64 a0] X w [] (fun i : Hd => .slice i.1 r.length i.2) (fun i => []) (fun i => [mkRow (Kd.int .u8) 5 (.slice i.1 r.length i.2) r]) (fun i => []) := by
 refine Cn.of Try.func45 (by kernel_rfl) hS ?_
 unfold haywainref02_Num.f at H
 refine J.seq (by kernel_rfl) ?_
 refine J.region (by kernel_rfl) ?_
 refine O.pure 1 [] [0] [] (fr' := [(0, .int .i64 a0)]) (bx' := []) (by kernel_rfl) ?_
 refine O.nil (by kernel_rfl) ?_
 refine J.seq (by kernel_rfl) ?_
 obtain ⟨x1_2, hx1_2, H⟩ := bindE H
 refine J.region (by kernel_rfl) ?_
 refine O.pure 2 [] [4] [] (fr' := [(4, .int .u64 (IntKind.wrap .u64 a0))]) (bx' := []) (by kernel_rfl) ?_
 refine O.e (some 5) (Ev.call0 (xs := [.tmp 4, .const (.int .i64 8)]) [] (by kernel_rfl) (by kernel_rfl) (fun w hS => haywainref02_Digits.con K (IntKind.wrap .u64 a0) 8  _ _ w hS hx1_2)) (by kernel_rfl) (fun p1_2 => ?_)
 refine O.pure 1 [] [2] [] (fr' := [(2, .slice p1_2.1 x1_2.length p1_2.2)]) (bx' := []) (by kernel_rfl) ?_
 refine O.nil (by kernel_rfl) ?_
 obtain rfl := Option.some.inj H
 exact J.doneS [] [] [] [] [0] p1_2 (vs := [.slice p1_2.1 x1_2.length p1_2.2]) (by kernel_rfl) (by kernel_rfl) (by kernel_rfl) (by kernel_rfl) (by kernel_rfl) (by decide)
/-! ### haywain/haywainref14.Save: function 17 -/
def haywainref14_Save.l9 (K : Nat) (x11_1 : ByteArray) (x1_1 : List S85) : Nat → ((List S91) × Int) → Option ((List S91) × Int)
  | 0, _ => none
  | k + 1, s9 => cond (decide (s9.2 < (x1_1.length : Int))) ((idxO x1_1 s9.2).bind fun x22_2 => (sidxO x22_2.f0 0).bind fun x22_5 => cond (x22_5 == 99) ((idxO x1_1 s9.2).bind fun x22_10 => cond (!(x22_10.f0.toList == x11_1.toList)) ((idxO x1_1 s9.2).bind fun x23_3 => (appO 48 s9.1 ([(⟨1, x23_3.f0, ([] : List Int)⟩ : S91)] : List S91)).bind fun y23_8 => haywainref14_Save.l9 K x11_1 x1_1 k ((s9.1 ++ ([(⟨1, x23_3.f0, ([] : List Int)⟩ : S91)] : List S91)), (IntKind.wrap .i64 (s9.2 + 1)))) (haywainref14_Save.l9 K x11_1 x1_1 k (s9.1, (IntKind.wrap .i64 (s9.2 + 1))))) (haywainref14_Save.l9 K x11_1 x1_1 k (s9.1, (IntKind.wrap .i64 (s9.2 + 1))))) (some ((s9.1, 0)))
def haywainref14_Save.f (K : Nat) (a0 : List S85) (a1 : Int) (a2 : List Int) : Option ((List S91) × Int) := (haywainref13_Good.f K a0).bind fun x1_1 => cond (decide (a1 < 1)) (some ((([] : List S91), 1))) (cond (decide (a1 > 1099511627776)) (some ((([] : List S91), 1))) (cond (decide ((a2.length : Int) > 4000)) (some ((([] : List S91), 3))) ((haywainref14_List.f K x1_1).bind fun x6_1 => cond (!x6_1.f3) (some ((([] : List S91), 2))) (cond x6_1.f2 (some ((([] : List S91), 6))) ((haywainref14_last.f K x6_1).bind fun x9_5 => cond (decide (a1 ≤ x9_5)) (some ((([] : List S91), 6))) ((haywainref14_File.f K a1).bind fun x11_1 => (haywainref13_Has.f K x1_1 x11_1).bind fun x13_2 => (cond x13_2 ((appO 48 ([] : List S91) ([(⟨1, x11_1, ([] : List Int)⟩ : S91)] : List S91)).bind fun y14_4 => some ((([] : List S91) ++ ([(⟨1, x11_1, ([] : List Int)⟩ : S91)] : List S91)))) (some (([] : List S91))) : Option (List S91)).bind fun o7 : (List S91) => (haywainref02_Frame.f K a2).bind fun x15_3 => (appO 48 o7 ([(⟨2, x11_1, x15_3⟩ : S91)] : List S91)).bind fun y15_6 => (appO 48 (o7 ++ ([(⟨2, x11_1, x15_3⟩ : S91)] : List S91)) ([(⟨3, x11_1, ([] : List Int)⟩ : S91)] : List S91)).bind fun y16_4 => (haywainref02_Num.f K a1).bind fun x17_2 => (haywainref02_Frame.f K x17_2).bind fun x17_3 => (appO 48 ((o7 ++ ([(⟨2, x11_1, x15_3⟩ : S91)] : List S91)) ++ ([(⟨3, x11_1, ([] : List Int)⟩ : S91)] : List S91)) ([(⟨2, (⟨#[109]⟩ : ByteArray), x17_3⟩ : S91)] : List S91)).bind fun y17_6 => (appO 48 (((o7 ++ ([(⟨2, x11_1, x15_3⟩ : S91)] : List S91)) ++ ([(⟨3, x11_1, ([] : List Int)⟩ : S91)] : List S91)) ++ ([(⟨2, (⟨#[109]⟩ : ByteArray), x17_3⟩ : S91)] : List S91)) ([(⟨3, (⟨#[109]⟩ : ByteArray), ([] : List Int)⟩ : S91)] : List S91)).bind fun y18_3 => haywainref14_Save.l9 K x11_1 x1_1 K (((((o7 ++ ([(⟨2, x11_1, x15_3⟩ : S91)] : List S91)) ++ ([(⟨3, x11_1, ([] : List Int)⟩ : S91)] : List S91)) ++ ([(⟨2, (⟨#[109]⟩ : ByteArray), x17_3⟩ : S91)] : List S91)) ++ ([(⟨3, (⟨#[109]⟩ : ByteArray), ([] : List Int)⟩ : S91)] : List S91)), 0)))))))
set_option maxRecDepth 100000 in
set_option maxHeartbeats 1000000 in
theorem haywainref14_Save.con (K : Nat) (a0 : List S85) (a1 : Int) (a2 : List Int) (h0 : Hd) (h1 : Hd) (r : ((List S91) × Int)) (X : Nat → Nat → Prop) (w : World) (hS : St X w [] [] [] [] [Rd kd85 h0.1 h0.2 a0, Rd (Kd.int .u8) h1.1 h1.2 a2] w) (H : haywainref14_Save.f K a0 a1 a2 = some r) :
    Cn Try.prog 17 [.slice h0.1 a0.length h0.2, .int .i64 a1, .slice h1.1 a2.length h1.2] X w [] (fun i : Hd => .tuple #[.slice i.1 r.1.length i.2, .int .i64 r.2]) (fun i => []) (fun i => [mkRow kd91 91 (.slice i.1 r.1.length i.2) r.1]) (fun i => []) := by
 refine Cn.of Try.func17 (by kernel_rfl) hS ?_
 unfold haywainref14_Save.f at H
 refine J.seq (by kernel_rfl) ?_
 refine J.region (by kernel_rfl) ?_
 refine O.pure 2 [] [0, 1, 2] [] (fr' := [(0, .slice h0.1 a0.length h0.2), (1, .int .i64 a1), (2, .slice h1.1 a2.length h1.2)]) (bx' := []) (by kernel_rfl) ?_
 refine O.nil (by kernel_rfl) ?_
 refine J.seq (by kernel_rfl) ?_
 obtain ⟨x1_1, hx1_1, H⟩ := bindE H
 refine J.region (by kernel_rfl) ?_
 refine O.pure 1 [] [0, 1, 2, 12] [] (fr' := [(0, .slice h0.1 a0.length h0.2), (1, .int .i64 a1), (2, .slice h1.1 a2.length h1.2), (12, .slice h0.1 a0.length h0.2)]) (bx' := []) (by kernel_rfl) ?_
 refine O.e (some 13) (Ev.call0 (xs := [.tmp 12]) [0] (by kernel_rfl) (by kernel_rfl) (fun w hS => haywainref13_Good.con K a0 h0  _ _ w hS hx1_1)) (by kernel_rfl) (fun p1_1 => ?_)
 refine O.pure 1 [] [0, 1, 2] [] (fr' := [(0, .slice p1_1.1 x1_1.length p1_1.2), (1, .int .i64 a1), (2, .slice h1.1 a2.length h1.2)]) (bx' := []) (by kernel_rfl) ?_
 refine O.nil (by kernel_rfl) ?_
 refine J.seq (by kernel_rfl) ?_
 refine J.seq (by kernel_rfl) ?_
 rcases condE H with ⟨hc1, H⟩ | ⟨hc1, H⟩
 ·refine J.region (by kernel_rfl) ?_
  refine O.pure 1 [] [0, 1, 2, 14] [] (fr' := [(0, .slice p1_1.1 x1_1.length p1_1.2), (1, .int .i64 a1), (2, .slice h1.1 a2.length h1.2), (14, .int .i64 a1)]) (bx' := []) (by kernel_rfl) ?_
  refine O.q (v := .bool true) (some 15) (Qu.eqv (u := .bool (decide (a1 < 1))) (v := .bool true) (0, 0) [] (by kernel_rfl) (congrArg Value.bool hc1)) (by kernel_rfl) ?_
  refine O.pure 4 [] [0, 1, 2, 19] [] (fr' := [(0, .slice p1_1.1 x1_1.length p1_1.2), (1, .int .i64 a1), (2, .slice h1.1 a2.length h1.2), (19, .bool true)]) (bx' := []) (by kernel_rfl) ?_
  refine O.nil (by kernel_rfl) ?_
  refine J.cond (o := .tmp 19) true (by kernel_rfl) (by kernel_rfl) ?_
  refine J.seq (by kernel_rfl) ?_
  refine J.region (by kernel_rfl) ?_
  refine O.pure 2 [] [6, 7] [] (fr' := [(6, .slice none 0 0), (7, .int .i64 1)]) (bx' := []) (by kernel_rfl) ?_
  refine O.nil (by kernel_rfl) ?_
  obtain rfl := Option.some.inj H
  refine J.nilrow kd91 91 ?_
  exact J.doneS [] [] [] [] [0] (none, 0) (vs := [.slice none 0 0, .int .i64 1]) (by kernel_rfl) (by kernel_rfl) (by kernel_rfl) (by kernel_rfl) (by kernel_rfl) (by decide)
 ·refine J.region (by kernel_rfl) ?_
  refine O.pure 1 [] [0, 1, 2, 14] [] (fr' := [(0, .slice p1_1.1 x1_1.length p1_1.2), (1, .int .i64 a1), (2, .slice h1.1 a2.length h1.2), (14, .int .i64 a1)]) (bx' := []) (by kernel_rfl) ?_
  refine O.q (v := .bool false) (some 15) (Qu.eqv (u := .bool (decide (a1 < 1))) (v := .bool false) (0, 0) [] (by kernel_rfl) (congrArg Value.bool hc1)) (by kernel_rfl) ?_
  refine O.pure 4 [] [0, 1, 2, 19] [] (fr' := [(0, .slice p1_1.1 x1_1.length p1_1.2), (1, .int .i64 a1), (2, .slice h1.1 a2.length h1.2), (19, .bool (decide (a1 > 1099511627776)))]) (bx' := []) (by kernel_rfl) ?_
  refine O.nil (by kernel_rfl) ?_
  rcases condE H with ⟨hc2, H⟩ | ⟨hc2, H⟩
  ·refine J.condT (x := .tmp 19) (t := (decide (a1 > 1099511627776))) (by kernel_rfl) (by kernel_rfl) hc2 ?_
   refine J.seq (by kernel_rfl) ?_
   refine J.region (by kernel_rfl) ?_
   refine O.pure 2 [] [6, 7] [] (fr' := [(6, .slice none 0 0), (7, .int .i64 1)]) (bx' := []) (by kernel_rfl) ?_
   refine O.nil (by kernel_rfl) ?_
   obtain rfl := Option.some.inj H
   refine J.nilrow kd91 91 ?_
   exact J.doneS [] [] [] [] [0] (none, 0) (vs := [.slice none 0 0, .int .i64 1]) (by kernel_rfl) (by kernel_rfl) (by kernel_rfl) (by kernel_rfl) (by kernel_rfl) (by decide)
  ·refine J.condF (x := .tmp 19) (t := (decide (a1 > 1099511627776))) (by kernel_rfl) (by kernel_rfl) hc2 ?_
   refine J.skip (by kernel_rfl) ?_
   refine J.seq (by kernel_rfl) ?_
   refine J.seq (by kernel_rfl) ?_
   refine J.region (by kernel_rfl) ?_
   refine O.pure 3 [] [0, 1, 2, 22] [] (fr' := [(0, .slice p1_1.1 x1_1.length p1_1.2), (1, .int .i64 a1), (2, .slice h1.1 a2.length h1.2), (22, .bool (decide ((a2.length : Int) > 4000)))]) (bx' := []) (by kernel_rfl) ?_
   refine O.nil (by kernel_rfl) ?_
   rcases condE H with ⟨hc3, H⟩ | ⟨hc3, H⟩
   ·refine J.condT (x := .tmp 22) (t := (decide ((a2.length : Int) > 4000))) (by kernel_rfl) (by kernel_rfl) hc3 ?_
    refine J.seq (by kernel_rfl) ?_
    refine J.region (by kernel_rfl) ?_
    refine O.pure 2 [] [6, 7] [] (fr' := [(6, .slice none 0 0), (7, .int .i64 3)]) (bx' := []) (by kernel_rfl) ?_
    refine O.nil (by kernel_rfl) ?_
    obtain rfl := Option.some.inj H
    refine J.nilrow kd91 91 ?_
    exact J.doneS [] [] [] [] [0] (none, 0) (vs := [.slice none 0 0, .int .i64 3]) (by kernel_rfl) (by kernel_rfl) (by kernel_rfl) (by kernel_rfl) (by kernel_rfl) (by decide)
   ·refine J.condF (x := .tmp 22) (t := (decide ((a2.length : Int) > 4000))) (by kernel_rfl) (by kernel_rfl) hc3 ?_
    refine J.skip (by kernel_rfl) ?_
    refine J.seq (by kernel_rfl) ?_
    obtain ⟨x6_1, hx6_1, H⟩ := bindE H
    refine J.region (by kernel_rfl) ?_
    refine O.pure 1 [] [0, 1, 2, 23] [] (fr' := [(0, .slice p1_1.1 x1_1.length p1_1.2), (1, .int .i64 a1), (2, .slice h1.1 a2.length h1.2), (23, .slice p1_1.1 x1_1.length p1_1.2)]) (bx' := []) (by kernel_rfl) ?_
    refine O.e (some 24) (Ev.call0 (xs := [.tmp 23]) [0] (by kernel_rfl) (by kernel_rfl) (fun w hS => haywainref14_List.con K x1_1 p1_1  _ _ w hS hx6_1)) (by kernel_rfl) (fun p6_1 => ?_)
    refine O.e (some 8) (Ev.alloc (t := 79) (z := .agg #[.slice none 0 0, .int .i64 0, .bool false, .bool false]) (by kernel_rfl) (by kernel_rfl)) (by kernel_rfl) (fun p6_2 => ?_)
    refine O.pure 1 [(0, 0)] [0, 1, 2, 8] [p6_2, 0] (fr' := [(0, .slice p1_1.1 x1_1.length p1_1.2), (1, .int .i64 a1), (2, .slice h1.1 a2.length h1.2), (8, .pointer (some ⟨p6_2, 0, none⟩))]) (bx' := [⟨p6_2, [.slice p6_1.1 x6_1.f0.length p6_1.2, .int .i64 x6_1.f1, .bool x6_1.f2, .bool x6_1.f3], 79⟩]) (by kernel_rfl) ?_
    refine O.nil (by kernel_rfl) ?_
    refine J.seq (by kernel_rfl) ?_
    refine J.seq (by kernel_rfl) ?_
    refine J.region (by kernel_rfl) ?_
    refine O.pure 3 [(0, 3)] [0, 1, 2, 8, 27] [p6_2, 3] (fr' := [(0, .slice p1_1.1 x1_1.length p1_1.2), (1, .int .i64 a1), (2, .slice h1.1 a2.length h1.2), (8, .pointer (some ⟨p6_2, 0, none⟩)), (27, .bool (!x6_1.f3))]) (bx' := [⟨p6_2, [.slice p6_1.1 x6_1.f0.length p6_1.2, .int .i64 x6_1.f1, .bool x6_1.f2, .bool x6_1.f3], 79⟩]) (by kernel_rfl) ?_
    refine O.nil (by kernel_rfl) ?_
    rcases condE H with ⟨hc4, H⟩ | ⟨hc4, H⟩
    ·refine J.condT (x := .tmp 27) (t := (!x6_1.f3)) (by kernel_rfl) (by kernel_rfl) hc4 ?_
     refine J.seq (by kernel_rfl) ?_
     refine J.region (by kernel_rfl) ?_
     refine O.pure 2 [] [6, 7] [] (fr' := [(6, .slice none 0 0), (7, .int .i64 2)]) (bx' := [⟨p6_2, [.slice p6_1.1 x6_1.f0.length p6_1.2, .int .i64 x6_1.f1, .bool x6_1.f2, .bool x6_1.f3], 79⟩]) (by kernel_rfl) ?_
     refine O.nil (by kernel_rfl) ?_
     obtain rfl := Option.some.inj H
     refine J.nilrow kd91 91 ?_
     exact J.doneS [] [] [] [] [0] (none, 0) (vs := [.slice none 0 0, .int .i64 2]) (by kernel_rfl) (by kernel_rfl) (by kernel_rfl) (by kernel_rfl) (by kernel_rfl) (by decide)
    ·refine J.condF (x := .tmp 27) (t := (!x6_1.f3)) (by kernel_rfl) (by kernel_rfl) hc4 ?_
     refine J.skip (by kernel_rfl) ?_
     refine J.seq (by kernel_rfl) ?_
     refine J.seq (by kernel_rfl) ?_
     rcases condE H with ⟨hc5, H⟩ | ⟨hc5, H⟩
     ·refine J.region (by kernel_rfl) ?_
      refine O.pure 1 [] [0, 1, 2, 8, 28] [] (fr' := [(0, .slice p1_1.1 x1_1.length p1_1.2), (1, .int .i64 a1), (2, .slice h1.1 a2.length h1.2), (8, .pointer (some ⟨p6_2, 0, none⟩)), (28, .pointer (some ⟨p6_2, 2, none⟩))]) (bx' := [⟨p6_2, [.slice p6_1.1 x6_1.f0.length p6_1.2, .int .i64 x6_1.f1, .bool x6_1.f2, .bool x6_1.f3], 79⟩]) (by kernel_rfl) ?_
      refine O.q (v := .bool true) (some 29) (Qu.eqv (u := .bool x6_1.f2) (v := .bool true) (0, 2) [p6_2, 2] (by kernel_rfl) (congrArg Value.bool hc5)) (by kernel_rfl) ?_
      refine O.pure 6 [] [0, 1, 2, 35] [] (fr' := [(0, .slice p1_1.1 x1_1.length p1_1.2), (1, .int .i64 a1), (2, .slice h1.1 a2.length h1.2), (35, .bool true)]) (bx' := [⟨p6_2, [.slice p6_1.1 x6_1.f0.length p6_1.2, .int .i64 x6_1.f1, .bool x6_1.f2, .bool x6_1.f3], 79⟩]) (by kernel_rfl) ?_
      refine O.nil (by kernel_rfl) ?_
      refine J.cond (o := .tmp 35) true (by kernel_rfl) (by kernel_rfl) ?_
      refine J.seq (by kernel_rfl) ?_
      refine J.region (by kernel_rfl) ?_
      refine O.pure 2 [] [6, 7] [] (fr' := [(6, .slice none 0 0), (7, .int .i64 6)]) (bx' := [⟨p6_2, [.slice p6_1.1 x6_1.f0.length p6_1.2, .int .i64 x6_1.f1, .bool x6_1.f2, .bool x6_1.f3], 79⟩]) (by kernel_rfl) ?_
      refine O.nil (by kernel_rfl) ?_
      obtain rfl := Option.some.inj H
      refine J.nilrow kd91 91 ?_
      exact J.doneS [] [] [] [] [0] (none, 0) (vs := [.slice none 0 0, .int .i64 6]) (by kernel_rfl) (by kernel_rfl) (by kernel_rfl) (by kernel_rfl) (by kernel_rfl) (by decide)
     ·obtain ⟨x9_5, hx9_5, H⟩ := bindE H
      refine J.region (by kernel_rfl) ?_
      refine O.pure 1 [] [0, 1, 2, 8, 28] [] (fr' := [(0, .slice p1_1.1 x1_1.length p1_1.2), (1, .int .i64 a1), (2, .slice h1.1 a2.length h1.2), (8, .pointer (some ⟨p6_2, 0, none⟩)), (28, .pointer (some ⟨p6_2, 2, none⟩))]) (bx' := [⟨p6_2, [.slice p6_1.1 x6_1.f0.length p6_1.2, .int .i64 x6_1.f1, .bool x6_1.f2, .bool x6_1.f3], 79⟩]) (by kernel_rfl) ?_
      refine O.q (v := .bool false) (some 29) (Qu.eqv (u := .bool x6_1.f2) (v := .bool false) (0, 2) [p6_2, 2] (by kernel_rfl) (congrArg Value.bool hc5)) (by kernel_rfl) ?_
      refine O.pure 3 [(0, 0)] [0, 1, 2, 30, 31, 32] [p6_2, 0] (fr' := [(0, .slice p1_1.1 x1_1.length p1_1.2), (1, .int .i64 a1), (2, .slice h1.1 a2.length h1.2), (30, .bool false), (31, .int .i64 a1), (32, .agg #[.slice p6_1.1 x6_1.f0.length p6_1.2, .int .i64 x6_1.f1, .bool x6_1.f2, .bool x6_1.f3])]) (bx' := [⟨p6_2, [.slice p6_1.1 x6_1.f0.length p6_1.2, .int .i64 x6_1.f1, .bool x6_1.f2, .bool x6_1.f3], 79⟩]) (by kernel_rfl) ?_
      refine O.e (some 33) (Ev.callLb (xs1 := [.tmp 32]) [0] (fun w hS => (hS.rowsel [0] rfl (by decide)).freezeL (hh := p6_1) (m := x6_1.f0.length) (xs := x6_1.f0) rfl) (by kernel_rfl) (by kernel_rfl) (fun _ q hq => by cases hq) (fun w hS => haywainref14_last.con K x6_1 p6_1  _ _ w hS hx9_5)) (by kernel_rfl) (fun _ => ?_)
      refine O.pure 2 [] [0, 1, 2, 35] [] (fr' := [(0, .slice p1_1.1 x1_1.length p1_1.2), (1, .int .i64 a1), (2, .slice h1.1 a2.length h1.2), (35, .bool (decide (a1 ≤ x9_5)))]) (bx' := [⟨p6_2, [.slice p6_1.1 x6_1.f0.length p6_1.2, .int .i64 x6_1.f1, .bool x6_1.f2, .bool x6_1.f3], 79⟩]) (by kernel_rfl) ?_
      refine O.nil (by kernel_rfl) ?_
      rcases condE H with ⟨hc6, H⟩ | ⟨hc6, H⟩
      ·refine J.condT (x := .tmp 35) (t := (decide (a1 ≤ x9_5))) (by kernel_rfl) (by kernel_rfl) hc6 ?_
       refine J.seq (by kernel_rfl) ?_
       refine J.region (by kernel_rfl) ?_
       refine O.pure 2 [] [6, 7] [] (fr' := [(6, .slice none 0 0), (7, .int .i64 6)]) (bx' := [⟨p6_2, [.slice p6_1.1 x6_1.f0.length p6_1.2, .int .i64 x6_1.f1, .bool x6_1.f2, .bool x6_1.f3], 79⟩]) (by kernel_rfl) ?_
       refine O.nil (by kernel_rfl) ?_
       obtain rfl := Option.some.inj H
       refine J.nilrow kd91 91 ?_
       exact J.doneS [] [] [] [] [0] (none, 0) (vs := [.slice none 0 0, .int .i64 6]) (by kernel_rfl) (by kernel_rfl) (by kernel_rfl) (by kernel_rfl) (by kernel_rfl) (by decide)
      ·refine J.condF (x := .tmp 35) (t := (decide (a1 ≤ x9_5))) (by kernel_rfl) (by kernel_rfl) hc6 ?_
       refine J.skip (by kernel_rfl) ?_
       refine J.seq (by kernel_rfl) ?_
       obtain ⟨x11_1, hx11_1, H⟩ := bindE H
       refine J.region (by kernel_rfl) ?_
       refine O.pure 1 [] [0, 1, 2, 36] [] (fr' := [(0, .slice p1_1.1 x1_1.length p1_1.2), (1, .int .i64 a1), (2, .slice h1.1 a2.length h1.2), (36, .int .i64 a1)]) (bx' := [⟨p6_2, [.slice p6_1.1 x6_1.f0.length p6_1.2, .int .i64 x6_1.f1, .bool x6_1.f2, .bool x6_1.f3], 79⟩]) (by kernel_rfl) ?_
       refine O.e (some 37) (Ev.call0 (xs := [.tmp 36]) [] (by kernel_rfl) (by kernel_rfl) (fun w hS => haywainref14_File.con K a1  _ _ w hS hx11_1)) (by kernel_rfl) (fun _ => ?_)
       refine O.pure 1 [] [0, 1, 2, 9] [] (fr' := [(0, .slice p1_1.1 x1_1.length p1_1.2), (1, .int .i64 a1), (2, .slice h1.1 a2.length h1.2), (9, .string x11_1)]) (bx' := [⟨p6_2, [.slice p6_1.1 x6_1.f0.length p6_1.2, .int .i64 x6_1.f1, .bool x6_1.f2, .bool x6_1.f3], 79⟩]) (by kernel_rfl) ?_
       refine O.nil (by kernel_rfl) ?_
       refine J.seq (by kernel_rfl) ?_
       refine J.region (by kernel_rfl) ?_
       refine O.pure 1 [] [0, 1, 2, 9, 10] [] (fr' := [(0, .slice p1_1.1 x1_1.length p1_1.2), (1, .int .i64 a1), (2, .slice h1.1 a2.length h1.2), (9, .string x11_1), (10, .slice none 0 0)]) (bx' := [⟨p6_2, [.slice p6_1.1 x6_1.f0.length p6_1.2, .int .i64 x6_1.f1, .bool x6_1.f2, .bool x6_1.f3], 79⟩]) (by kernel_rfl) ?_
       refine O.nil (by kernel_rfl) ?_
       refine J.seq (by kernel_rfl) ?_
       refine J.seq (by kernel_rfl) ?_
       obtain ⟨x13_2, hx13_2, H⟩ := bindE H
       refine J.region (by kernel_rfl) ?_
       refine O.pure 2 [] [0, 1, 2, 9, 10, 38, 39] [] (fr' := [(0, .slice p1_1.1 x1_1.length p1_1.2), (1, .int .i64 a1), (2, .slice h1.1 a2.length h1.2), (9, .string x11_1), (10, .slice none 0 0), (38, .slice p1_1.1 x1_1.length p1_1.2), (39, .string x11_1)]) (bx' := [⟨p6_2, [.slice p6_1.1 x6_1.f0.length p6_1.2, .int .i64 x6_1.f1, .bool x6_1.f2, .bool x6_1.f3], 79⟩]) (by kernel_rfl) ?_
       refine O.e (some 40) (Ev.call0 (xs := [.tmp 38, .tmp 39]) [0] (by kernel_rfl) (by kernel_rfl) (fun w hS => haywainref13_Has.con K x1_1 x11_1 p1_1  _ _ w hS hx13_2)) (by kernel_rfl) (fun _ => ?_)
       refine O.nil (by kernel_rfl) ?_
       refine J.join (α := (List S91)) (γ := Hd) (fun o7 q7 => [(0, .slice p1_1.1 x1_1.length p1_1.2), (1, .int .i64 a1), (2, .slice h1.1 a2.length h1.2), (9, .string x11_1), (10, .slice q7.1 o7.length q7.2)]) (fun o7 q7 => St X w [] [] [mkRow kd91 91 (.slice q7.1 o7.length q7.2) o7] [] [Rd kd85 p1_1.1 p1_1.2 x1_1, Rd kd85 h0.1 h0.2 a0, Rd (Kd.int .u8) h1.1 h1.2 a2]) H (fun o7 q7 H => ?_) (fun o7 H hj7 => ?_)
       ·refine J.seq (by kernel_rfl) ?_
        obtain ⟨x15_3, hx15_3, H⟩ := bindE H
        obtain ⟨y15_6, hy15_6, H⟩ := bindE H
        have hy15_6a := (appE hy15_6).1
        refine J.region (by kernel_rfl) ?_
        refine O.pure 3 [] [0, 1, 9, 10, 46, 47, 48] [] (fr' := [(0, .slice p1_1.1 x1_1.length p1_1.2), (1, .int .i64 a1), (9, .string x11_1), (10, .slice q7.1 o7.length q7.2), (46, .slice q7.1 o7.length q7.2), (47, .string x11_1), (48, .slice h1.1 a2.length h1.2)]) (bx' := []) (by kernel_rfl) ?_
        refine O.e (some 49) (Ev.call0 (xs := [.tmp 48]) [2] (by kernel_rfl) (by kernel_rfl) (fun w hS => haywainref02_Frame.con K a2 h1  _ _ w hS hx15_3)) (by kernel_rfl) (fun p15_3 => ?_)
        refine O.pure 1 [] [0, 1, 9, 10, 46, 50] [] (fr' := [(0, .slice p1_1.1 x1_1.length p1_1.2), (1, .int .i64 a1), (9, .string x11_1), (10, .slice q7.1 o7.length q7.2), (46, .slice q7.1 o7.length q7.2), (50, .agg #[.int .i64 2, .string x11_1, .slice p15_3.1 x15_3.length p15_3.2])]) (bx' := []) (by kernel_rfl) ?_
        refine O.e (some 51) (Ev.mono (fun w hS => hS.freezeH (h := p15_3) (xs := x15_3)) (Ev.lit (t := 40) (len := 1) (parts := #[(0, .tmp 50)]) (ps := [(0, .agg #[.int .i64 2, .string x11_1, .slice p15_3.1 x15_3.length p15_3.2])]) (cs := [.int .i64 2, .string x11_1, .slice p15_3.1 x15_3.length p15_3.2]) (e := 91) kd91 ([(⟨2, x11_1, x15_3⟩ : S91)] : List S91) (by kernel_rfl) (by kernel_rfl) (by kernel_rfl) (by kernel_rfl) (by kernel_rfl) (by decide) (fun w' hφ => (Els.cons (c := [.int .i64 2, .string x11_1, .slice p15_3.1 x15_3.length p15_3.2]) (⟨p15_3, rfl, hφ _ (List.mem_of_getElem? (i := 0) rfl)⟩) (Els.nil _ _ _))))) (by kernel_rfl) (fun p15_5 => ?_)
        refine O.e (some 52) (Ev.appLit (x := .tmp 46) (y := .tmp 51) (t := 40) (bytes := 48) (by kernel_rfl) (by kernel_rfl) (by kernel_rfl) (by kernel_rfl) (by kernel_rfl) (by decide) hy15_6a) (by kernel_rfl) (fun p15_6 => ?_)
        refine O.pure 1 [] [0, 1, 9, 10] [] (fr' := [(0, .slice p1_1.1 x1_1.length p1_1.2), (1, .int .i64 a1), (9, .string x11_1), (10, .slice p15_6.1 (o7 ++ ([(⟨2, x11_1, x15_3⟩ : S91)] : List S91)).length p15_6.2)]) (bx' := []) (by kernel_rfl) ?_
        refine O.nil (by kernel_rfl) ?_
        refine J.seq (by kernel_rfl) ?_
        obtain ⟨y16_4, hy16_4, H⟩ := bindE H
        have hy16_4a := (appE hy16_4).1
        refine J.region (by kernel_rfl) ?_
        refine O.pure 3 [] [0, 1, 9, 10, 53, 55] [] (fr' := [(0, .slice p1_1.1 x1_1.length p1_1.2), (1, .int .i64 a1), (9, .string x11_1), (10, .slice p15_6.1 (o7 ++ ([(⟨2, x11_1, x15_3⟩ : S91)] : List S91)).length p15_6.2), (53, .slice p15_6.1 (o7 ++ ([(⟨2, x11_1, x15_3⟩ : S91)] : List S91)).length p15_6.2), (55, .agg #[.int .i64 3, .string x11_1, .slice none 0 0])]) (bx' := []) (by kernel_rfl) ?_
        refine O.e (some 56) (Ev.lit (t := 40) (len := 1) (parts := #[(0, .tmp 55)]) (ps := [(0, .agg #[.int .i64 3, .string x11_1, .slice none 0 0])]) (cs := [.int .i64 3, .string x11_1, .slice none 0 0]) (e := 91) kd91 ([(⟨3, x11_1, ([] : List Int)⟩ : S91)] : List S91) (by kernel_rfl) (by kernel_rfl) (by kernel_rfl) (by kernel_rfl) (by kernel_rfl) (by decide) (fun w' hφ => (Els.cons (c := [.int .i64 3, .string x11_1, .slice none 0 0]) (⟨(none, 0), rfl, Rd.nil _ _⟩) (Els.nil _ _ _)))) (by kernel_rfl) (fun p16_3 => ?_)
        refine O.e (some 57) (Ev.appLit (x := .tmp 53) (y := .tmp 56) (t := 40) (bytes := 48) (by kernel_rfl) (by kernel_rfl) (by kernel_rfl) (by kernel_rfl) (by kernel_rfl) (by decide) hy16_4a) (by kernel_rfl) (fun p16_4 => ?_)
        refine O.pure 1 [] [0, 1, 9, 10] [] (fr' := [(0, .slice p1_1.1 x1_1.length p1_1.2), (1, .int .i64 a1), (9, .string x11_1), (10, .slice p16_4.1 ((o7 ++ ([(⟨2, x11_1, x15_3⟩ : S91)] : List S91)) ++ ([(⟨3, x11_1, ([] : List Int)⟩ : S91)] : List S91)).length p16_4.2)]) (bx' := []) (by kernel_rfl) ?_
        refine O.nil (by kernel_rfl) ?_
        refine J.seq (by kernel_rfl) ?_
        obtain ⟨x17_2, hx17_2, H⟩ := bindE H
        obtain ⟨x17_3, hx17_3, H⟩ := bindE H
        obtain ⟨y17_6, hy17_6, H⟩ := bindE H
        have hy17_6a := (appE hy17_6).1
        refine J.region (by kernel_rfl) ?_
        refine O.pure 2 [] [0, 9, 10, 58, 59] [] (fr' := [(0, .slice p1_1.1 x1_1.length p1_1.2), (9, .string x11_1), (10, .slice p16_4.1 ((o7 ++ ([(⟨2, x11_1, x15_3⟩ : S91)] : List S91)) ++ ([(⟨3, x11_1, ([] : List Int)⟩ : S91)] : List S91)).length p16_4.2), (58, .slice p16_4.1 ((o7 ++ ([(⟨2, x11_1, x15_3⟩ : S91)] : List S91)) ++ ([(⟨3, x11_1, ([] : List Int)⟩ : S91)] : List S91)).length p16_4.2), (59, .int .i64 a1)]) (bx' := []) (by kernel_rfl) ?_
        refine O.e (some 60) (Ev.call0 (xs := [.tmp 59]) [] (by kernel_rfl) (by kernel_rfl) (fun w hS => haywainref02_Num.con K a1  _ _ w hS hx17_2)) (by kernel_rfl) (fun p17_2 => ?_)
        refine O.e (some 61) (Ev.callLb (xs1 := [.tmp 60]) [0] (fun w hS => (hS.rowsel [0, 1] rfl (by decide)).freezeL (hh := p17_2) (m := x17_2.length) (xs := x17_2) rfl) (by kernel_rfl) (by kernel_rfl) (fun _ q hq _ _ _ h => by obtain rfl := List.mem_singleton.1 hq; exact h) (fun w hS => haywainref02_Frame.con K x17_2 p17_2  _ _ w hS hx17_3)) (by kernel_rfl) (fun p17_3 => ?_)
        refine O.pure 1 [] [0, 9, 10, 58, 62] [] (fr' := [(0, .slice p1_1.1 x1_1.length p1_1.2), (9, .string x11_1), (10, .slice p16_4.1 ((o7 ++ ([(⟨2, x11_1, x15_3⟩ : S91)] : List S91)) ++ ([(⟨3, x11_1, ([] : List Int)⟩ : S91)] : List S91)).length p16_4.2), (58, .slice p16_4.1 ((o7 ++ ([(⟨2, x11_1, x15_3⟩ : S91)] : List S91)) ++ ([(⟨3, x11_1, ([] : List Int)⟩ : S91)] : List S91)).length p16_4.2), (62, .agg #[.int .i64 2, .string (⟨#[109]⟩ : ByteArray), .slice p17_3.1 x17_3.length p17_3.2])]) (bx' := []) (by kernel_rfl) ?_
        refine O.e (some 63) (Ev.mono (fun w hS => hS.freezeH (h := p17_3) (xs := x17_3)) (Ev.mono (fun w hS => hS.rowsel [1, 0] rfl (by decide)) (Ev.lit (t := 40) (len := 1) (parts := #[(0, .tmp 62)]) (ps := [(0, .agg #[.int .i64 2, .string (⟨#[109]⟩ : ByteArray), .slice p17_3.1 x17_3.length p17_3.2])]) (cs := [.int .i64 2, .string (⟨#[109]⟩ : ByteArray), .slice p17_3.1 x17_3.length p17_3.2]) (e := 91) kd91 ([(⟨2, (⟨#[109]⟩ : ByteArray), x17_3⟩ : S91)] : List S91) (by kernel_rfl) (by kernel_rfl) (by kernel_rfl) (by kernel_rfl) (by kernel_rfl) (by decide) (fun w' hφ => (Els.cons (c := [.int .i64 2, .string (⟨#[109]⟩ : ByteArray), .slice p17_3.1 x17_3.length p17_3.2]) (⟨p17_3, rfl, hφ _ (List.mem_of_getElem? (i := 0) rfl)⟩) (Els.nil _ _ _)))))) (by kernel_rfl) (fun p17_5 => ?_)
        refine O.e (some 64) (Ev.appLit (x := .tmp 58) (y := .tmp 63) (t := 40) (bytes := 48) (by kernel_rfl) (by kernel_rfl) (by kernel_rfl) (by kernel_rfl) (by kernel_rfl) (by decide) hy17_6a) (by kernel_rfl) (fun p17_6 => ?_)
        refine O.pure 1 [] [0, 9, 10] [] (fr' := [(0, .slice p1_1.1 x1_1.length p1_1.2), (9, .string x11_1), (10, .slice p17_6.1 (((o7 ++ ([(⟨2, x11_1, x15_3⟩ : S91)] : List S91)) ++ ([(⟨3, x11_1, ([] : List Int)⟩ : S91)] : List S91)) ++ ([(⟨2, (⟨#[109]⟩ : ByteArray), x17_3⟩ : S91)] : List S91)).length p17_6.2)]) (bx' := []) (by kernel_rfl) ?_
        refine O.nil (by kernel_rfl) ?_
        refine J.seq (by kernel_rfl) ?_
        obtain ⟨y18_3, hy18_3, H⟩ := bindE H
        have hy18_3a := (appE hy18_3).1
        refine J.region (by kernel_rfl) ?_
        refine O.pure 2 [] [0, 9, 10, 65, 66] [] (fr' := [(0, .slice p1_1.1 x1_1.length p1_1.2), (9, .string x11_1), (10, .slice p17_6.1 (((o7 ++ ([(⟨2, x11_1, x15_3⟩ : S91)] : List S91)) ++ ([(⟨3, x11_1, ([] : List Int)⟩ : S91)] : List S91)) ++ ([(⟨2, (⟨#[109]⟩ : ByteArray), x17_3⟩ : S91)] : List S91)).length p17_6.2), (65, .slice p17_6.1 (((o7 ++ ([(⟨2, x11_1, x15_3⟩ : S91)] : List S91)) ++ ([(⟨3, x11_1, ([] : List Int)⟩ : S91)] : List S91)) ++ ([(⟨2, (⟨#[109]⟩ : ByteArray), x17_3⟩ : S91)] : List S91)).length p17_6.2), (66, .agg #[.int .i64 3, .string (⟨#[109]⟩ : ByteArray), .slice none 0 0])]) (bx' := []) (by kernel_rfl) ?_
        refine O.e (some 67) (Ev.lit (t := 40) (len := 1) (parts := #[(0, .tmp 66)]) (ps := [(0, .agg #[.int .i64 3, .string (⟨#[109]⟩ : ByteArray), .slice none 0 0])]) (cs := [.int .i64 3, .string (⟨#[109]⟩ : ByteArray), .slice none 0 0]) (e := 91) kd91 ([(⟨3, (⟨#[109]⟩ : ByteArray), ([] : List Int)⟩ : S91)] : List S91) (by kernel_rfl) (by kernel_rfl) (by kernel_rfl) (by kernel_rfl) (by kernel_rfl) (by decide) (fun w' hφ => (Els.cons (c := [.int .i64 3, .string (⟨#[109]⟩ : ByteArray), .slice none 0 0]) (⟨(none, 0), rfl, Rd.nil _ _⟩) (Els.nil _ _ _)))) (by kernel_rfl) (fun p18_2 => ?_)
        refine O.e (some 68) (Ev.appLit (x := .tmp 65) (y := .tmp 67) (t := 40) (bytes := 48) (by kernel_rfl) (by kernel_rfl) (by kernel_rfl) (by kernel_rfl) (by kernel_rfl) (by decide) hy18_3a) (by kernel_rfl) (fun p18_3 => ?_)
        refine O.pure 1 [] [0, 9, 10] [] (fr' := [(0, .slice p1_1.1 x1_1.length p1_1.2), (9, .string x11_1), (10, .slice p18_3.1 ((((o7 ++ ([(⟨2, x11_1, x15_3⟩ : S91)] : List S91)) ++ ([(⟨3, x11_1, ([] : List Int)⟩ : S91)] : List S91)) ++ ([(⟨2, (⟨#[109]⟩ : ByteArray), x17_3⟩ : S91)] : List S91)) ++ ([(⟨3, (⟨#[109]⟩ : ByteArray), ([] : List Int)⟩ : S91)] : List S91)).length p18_3.2)]) (bx' := []) (by kernel_rfl) ?_
        refine O.nil (by kernel_rfl) ?_
        refine J.seq (by kernel_rfl) ?_
        refine J.seq (by kernel_rfl) ?_
        refine J.region (by kernel_rfl) ?_
        refine O.pure 1 [] [0, 9, 10, 11] [] (fr' := [(0, .slice p1_1.1 x1_1.length p1_1.2), (9, .string x11_1), (10, .slice p18_3.1 ((((o7 ++ ([(⟨2, x11_1, x15_3⟩ : S91)] : List S91)) ++ ([(⟨3, x11_1, ([] : List Int)⟩ : S91)] : List S91)) ++ ([(⟨2, (⟨#[109]⟩ : ByteArray), x17_3⟩ : S91)] : List S91)) ++ ([(⟨3, (⟨#[109]⟩ : ByteArray), ([] : List Int)⟩ : S91)] : List S91)).length p18_3.2), (11, .int .i64 0)]) (bx' := []) (by kernel_rfl) ?_
        refine O.nil (by kernel_rfl) ?_
        refine J.block (id := 0) (by kernel_rfl) ?_
        refine J.loopI (σ := (List S91) × Int) (γ := Hd) (f := fun m_ s_ => haywainref14_Save.l9 K x11_1 x1_1 m_ s_) (fun s9 g9 => [(0, .slice p1_1.1 x1_1.length p1_1.2), (9, .string x11_1), (10, .slice g9.1 s9.1.length g9.2), (11, .int .i64 s9.2)]) (fun s9 g9 => St X w [] [] [mkRow kd91 91 (.slice g9.1 s9.1.length g9.2) s9.1] [] [Rd kd85 p1_1.1 p1_1.2 x1_1, Rd kd85 h0.1 h0.2 a0, Rd (Kd.int .u8) h1.1 h1.2 a2]) K (((((o7 ++ ([(⟨2, x11_1, x15_3⟩ : S91)] : List S91)) ++ ([(⟨3, x11_1, ([] : List Int)⟩ : S91)] : List S91)) ++ ([(⟨2, (⟨#[109]⟩ : ByteArray), x17_3⟩ : S91)] : List S91)) ++ ([(⟨3, (⟨#[109]⟩ : ByteArray), ([] : List Int)⟩ : S91)] : List S91)), 0) p18_3 (by kernel_rfl) H (fun _ => rfl) (fun m_ s9 H ih9 g9 => ?_) (fun h_ => ?_)
        ·unfold haywainref14_Save.l9 at H
         refine J.seq (by kernel_rfl) ?_
         refine J.seq (by kernel_rfl) ?_
         refine J.region (by kernel_rfl) ?_
         refine O.pure 4 [] [0, 9, 10, 11, 72] [] (fr' := [(0, .slice p1_1.1 x1_1.length p1_1.2), (9, .string x11_1), (10, .slice g9.1 s9.1.length g9.2), (11, .int .i64 s9.2), (72, .bool (decide (s9.2 < (x1_1.length : Int))))]) (bx' := []) (by kernel_rfl) ?_
         refine O.nil (by kernel_rfl) ?_
         rcases condE H with ⟨hc16, H⟩ | ⟨hc16, H⟩
         ·refine J.condT (x := .tmp 72) (t := (decide (s9.2 < (x1_1.length : Int)))) (by kernel_rfl) (by kernel_rfl) hc16 ?_
          refine J.skip (by kernel_rfl) ?_
          refine J.seq (by kernel_rfl) ?_
          refine J.block (id := 1) (by kernel_rfl) ?_
          refine J.seq (by kernel_rfl) ?_
          obtain ⟨x22_2, hx22_2, H⟩ := bindE H
          obtain ⟨hx22_2a, hx22_2⟩ := idxE hx22_2
          obtain ⟨x22_5, hx22_5, H⟩ := bindE H
          rcases condE H with ⟨hc17, H⟩ | ⟨hc17, H⟩
          ·obtain ⟨x22_10, hx22_10, H⟩ := bindE H
           obtain ⟨hx22_10a, hx22_10⟩ := idxE hx22_10
           refine J.region (by kernel_rfl) ?_
           refine O.pure 2 [] [0, 9, 10, 11, 75, 76] [] (fr' := [(0, .slice p1_1.1 x1_1.length p1_1.2), (9, .string x11_1), (10, .slice g9.1 s9.1.length g9.2), (11, .int .i64 s9.2), (75, .slice p1_1.1 x1_1.length p1_1.2), (76, .int .i64 s9.2)]) (bx' := []) (by kernel_rfl) ?_
           refine O.open (d := kd85) (h := p1_1) (i := s9.2) 0 rfl hx22_2 (op85 _) (fun p22_2 hp22_2A => ?_)
           refine O.q (v := .pointer (some ⟨p22_2.1, p22_2.2.1 + s9.2.toNat * 3, none⟩)) (some 77) (Qu.idx (t := 33) (x := .tmp 75) (y := .tmp 76) (c := p1_1.2) (kk := .i64) (sz := 3) (by kernel_rfl) (by kernel_rfl) (by kernel_rfl) (by kernel_rfl) hx22_2a (idx_lt hx22_2) hp22_2A) (by kernel_rfl) ?_
           refine O.pure 2 [(0, 0)] [0, 9, 10, 11, 79] [p22_2.1, p22_2.2.1 + s9.2.toNat * 3] (fr' := [(0, .slice p1_1.1 x1_1.length p1_1.2), (9, .string x11_1), (10, .slice g9.1 s9.1.length g9.2), (11, .int .i64 s9.2), (79, .string x22_2.f0)]) (bx' := []) (by kernel_rfl) ?_
           refine O.q (v := .int .u8 x22_5) (some 80) (Qu.strIdx (t := 9) (x := .tmp 79) (y := .const (.int .i64 0)) (s := x22_2.f0) (kk := .i64) (i := 0) (by kernel_rfl) (by kernel_rfl) (by kernel_rfl) (by kernel_rfl) hx22_5) (by kernel_rfl) ?_
           refine O.q (v := .bool true) (some 81) (Qu.eqv (u := .bool (x22_5 == 99)) (v := .bool true) (0, 0) [] (by kernel_rfl) (congrArg Value.bool hc17)) (by kernel_rfl) ?_
           refine O.pure 3 [] [0, 9, 10, 11, 82, 83, 84] [] (fr' := [(0, .slice p1_1.1 x1_1.length p1_1.2), (9, .string x11_1), (10, .slice g9.1 s9.1.length g9.2), (11, .int .i64 s9.2), (82, .bool true), (83, .slice p1_1.1 x1_1.length p1_1.2), (84, .int .i64 s9.2)]) (bx' := []) (by kernel_rfl) ?_
           refine O.open (d := kd85) (h := p1_1) (i := s9.2) 1 rfl hx22_10 (op85 _) (fun p22_10 hp22_10A => ?_)
           refine O.q (v := .pointer (some ⟨p22_10.1, p22_10.2.1 + s9.2.toNat * 3, none⟩)) (some 85) (Qu.idx (t := 33) (x := .tmp 83) (y := .tmp 84) (c := p1_1.2) (kk := .i64) (sz := 3) (by kernel_rfl) (by kernel_rfl) (by kernel_rfl) (by kernel_rfl) hx22_10a (idx_lt hx22_10) hp22_10A) (by kernel_rfl) ?_
           refine O.pure 5 [(0, 0)] [0, 9, 10, 11, 83, 84, 85, 86, 87, 88, 89, 90] [p22_10.1, p22_10.2.1 + s9.2.toNat * 3] (fr' := [(0, .slice p1_1.1 x1_1.length p1_1.2), (9, .string x11_1), (10, .slice g9.1 s9.1.length g9.2), (11, .int .i64 s9.2), (83, .slice p1_1.1 x1_1.length p1_1.2), (84, .int .i64 s9.2), (85, .pointer (some ⟨p22_10.1, p22_10.2.1 + s9.2.toNat * 3, none⟩)), (86, .pointer (some ⟨p22_10.1, p22_10.2.1 + s9.2.toNat * 3, none⟩)), (87, .string x22_10.f0), (88, .string x11_1), (89, .bool (!(x22_10.f0.toList == x11_1.toList))), (90, .bool (!(x22_10.f0.toList == x11_1.toList)))]) (bx' := []) (by kernel_rfl) ?_
           refine O.nil (by kernel_rfl) ?_
           rcases condE H with ⟨hc18, H⟩ | ⟨hc18, H⟩
           ·refine J.condT (x := .tmp 90) (t := (!(x22_10.f0.toList == x11_1.toList))) (by kernel_rfl) (by kernel_rfl) hc18 ?_
            obtain ⟨x23_3, hx23_3, H⟩ := bindE H
            obtain ⟨hx23_3a, hx23_3⟩ := idxE hx23_3
            obtain ⟨y23_8, hy23_8, H⟩ := bindE H
            have hy23_8a := (appE hy23_8).1
            refine J.region (by kernel_rfl) ?_
            refine O.pure 3 [] [0, 9, 10, 11, 83, 84, 85, 86, 87, 88, 89, 91, 92, 93] [] (fr' := [(0, .slice p1_1.1 x1_1.length p1_1.2), (9, .string x11_1), (10, .slice g9.1 s9.1.length g9.2), (11, .int .i64 s9.2), (83, .slice p1_1.1 x1_1.length p1_1.2), (84, .int .i64 s9.2), (85, .pointer (some ⟨p22_10.1, p22_10.2.1 + s9.2.toNat * 3, none⟩)), (86, .pointer (some ⟨p22_10.1, p22_10.2.1 + s9.2.toNat * 3, none⟩)), (87, .string x22_10.f0), (88, .string x11_1), (89, .bool (!(x22_10.f0.toList == x11_1.toList))), (91, .slice g9.1 s9.1.length g9.2), (92, .slice p1_1.1 x1_1.length p1_1.2), (93, .int .i64 s9.2)]) (bx' := []) (by kernel_rfl) ?_
            refine O.open (d := kd85) (h := p1_1) (i := s9.2) 2 rfl hx23_3 (op85 _) (fun p23_3 hp23_3A => ?_)
            refine O.q (v := .pointer (some ⟨p23_3.1, p23_3.2.1 + s9.2.toNat * 3, none⟩)) (some 94) (Qu.idx (t := 33) (x := .tmp 92) (y := .tmp 93) (c := p1_1.2) (kk := .i64) (sz := 3) (by kernel_rfl) (by kernel_rfl) (by kernel_rfl) (by kernel_rfl) hx23_3a (idx_lt hx23_3) hp23_3A) (by kernel_rfl) ?_
            refine O.pure 3 [(0, 0)] [0, 9, 10, 11, 83, 84, 85, 86, 87, 88, 89, 91, 97] [p23_3.1, p23_3.2.1 + s9.2.toNat * 3] (fr' := [(0, .slice p1_1.1 x1_1.length p1_1.2), (9, .string x11_1), (10, .slice g9.1 s9.1.length g9.2), (11, .int .i64 s9.2), (83, .slice p1_1.1 x1_1.length p1_1.2), (84, .int .i64 s9.2), (85, .pointer (some ⟨p22_10.1, p22_10.2.1 + s9.2.toNat * 3, none⟩)), (86, .pointer (some ⟨p22_10.1, p22_10.2.1 + s9.2.toNat * 3, none⟩)), (87, .string x22_10.f0), (88, .string x11_1), (89, .bool (!(x22_10.f0.toList == x11_1.toList))), (91, .slice g9.1 s9.1.length g9.2), (97, .agg #[.int .i64 1, .string x23_3.f0, .slice none 0 0])]) (bx' := []) (by kernel_rfl) ?_
            refine O.e (some 98) (Ev.lit (t := 40) (len := 1) (parts := #[(0, .tmp 97)]) (ps := [(0, .agg #[.int .i64 1, .string x23_3.f0, .slice none 0 0])]) (cs := [.int .i64 1, .string x23_3.f0, .slice none 0 0]) (e := 91) kd91 ([(⟨1, x23_3.f0, ([] : List Int)⟩ : S91)] : List S91) (by kernel_rfl) (by kernel_rfl) (by kernel_rfl) (by kernel_rfl) (by kernel_rfl) (by decide) (fun w' hφ => (Els.cons (c := [.int .i64 1, .string x23_3.f0, .slice none 0 0]) (⟨(none, 0), rfl, Rd.nil _ _⟩) (Els.nil _ _ _)))) (by kernel_rfl) (fun p23_7 => ?_)
            refine O.e (some 99) (Ev.appLit (x := .tmp 91) (y := .tmp 98) (t := 40) (bytes := 48) (by kernel_rfl) (by kernel_rfl) (by kernel_rfl) (by kernel_rfl) (by kernel_rfl) (by decide) hy23_8a) (by kernel_rfl) (fun p23_8 => ?_)
            refine O.pure 1 [] [0, 9, 10, 11, 83, 84, 85, 86, 87, 88, 89] [] (fr' := [(0, .slice p1_1.1 x1_1.length p1_1.2), (9, .string x11_1), (10, .slice p23_8.1 (s9.1 ++ ([(⟨1, x23_3.f0, ([] : List Int)⟩ : S91)] : List S91)).length p23_8.2), (11, .int .i64 s9.2), (83, .slice p1_1.1 x1_1.length p1_1.2), (84, .int .i64 s9.2), (85, .pointer (some ⟨p22_10.1, p22_10.2.1 + s9.2.toNat * 3, none⟩)), (86, .pointer (some ⟨p22_10.1, p22_10.2.1 + s9.2.toNat * 3, none⟩)), (87, .string x22_10.f0), (88, .string x11_1), (89, .bool (!(x22_10.f0.toList == x11_1.toList)))]) (bx' := []) (by kernel_rfl) ?_
            refine O.nil (by kernel_rfl) ?_
            refine J.out ?_
            refine J.region (by kernel_rfl) ?_
            refine O.pure 3 [] [0, 9, 10, 11, 83, 84, 85, 86, 87, 88, 89] [] (fr' := [(0, .slice p1_1.1 x1_1.length p1_1.2), (9, .string x11_1), (10, .slice p23_8.1 (s9.1 ++ ([(⟨1, x23_3.f0, ([] : List Int)⟩ : S91)] : List S91)).length p23_8.2), (11, .int .i64 (IntKind.wrap .i64 (s9.2 + 1))), (83, .slice p1_1.1 x1_1.length p1_1.2), (84, .int .i64 s9.2), (85, .pointer (some ⟨p22_10.1, p22_10.2.1 + s9.2.toNat * 3, none⟩)), (86, .pointer (some ⟨p22_10.1, p22_10.2.1 + s9.2.toNat * 3, none⟩)), (87, .string x22_10.f0), (88, .string x11_1), (89, .bool (!(x22_10.f0.toList == x11_1.toList)))]) (bx' := []) (by kernel_rfl) ?_
            refine O.nil (by kernel_rfl) ?_
            exact J.conv2 [0, 9, 10, 11] [3, 4, 5] [] [0] (by kernel_rfl) (by kernel_rfl) (by kernel_rfl) (by kernel_rfl) (by decide) (ih9 ((s9.1 ++ ([(⟨1, x23_3.f0, ([] : List Int)⟩ : S91)] : List S91)), (IntKind.wrap .i64 (s9.2 + 1))) p23_8 H)
           ·refine J.condF (x := .tmp 90) (t := (!(x22_10.f0.toList == x11_1.toList))) (by kernel_rfl) (by kernel_rfl) hc18 ?_
            refine J.skip (by kernel_rfl) ?_
            refine J.out ?_
            refine J.region (by kernel_rfl) ?_
            refine O.pure 3 [] [0, 9, 10, 11, 83, 84, 85, 86, 87, 88, 89] [] (fr' := [(0, .slice p1_1.1 x1_1.length p1_1.2), (9, .string x11_1), (10, .slice g9.1 s9.1.length g9.2), (11, .int .i64 (IntKind.wrap .i64 (s9.2 + 1))), (83, .slice p1_1.1 x1_1.length p1_1.2), (84, .int .i64 s9.2), (85, .pointer (some ⟨p22_10.1, p22_10.2.1 + s9.2.toNat * 3, none⟩)), (86, .pointer (some ⟨p22_10.1, p22_10.2.1 + s9.2.toNat * 3, none⟩)), (87, .string x22_10.f0), (88, .string x11_1), (89, .bool (!(x22_10.f0.toList == x11_1.toList)))]) (bx' := []) (by kernel_rfl) ?_
            refine O.nil (by kernel_rfl) ?_
            exact J.conv2 [0, 9, 10, 11] [2, 3, 4] [] [0] (by kernel_rfl) (by kernel_rfl) (by kernel_rfl) (by kernel_rfl) (by decide) (ih9 (s9.1, (IntKind.wrap .i64 (s9.2 + 1))) g9 H)
          ·refine J.region (by kernel_rfl) ?_
           refine O.pure 2 [] [0, 9, 10, 11, 75, 76] [] (fr' := [(0, .slice p1_1.1 x1_1.length p1_1.2), (9, .string x11_1), (10, .slice g9.1 s9.1.length g9.2), (11, .int .i64 s9.2), (75, .slice p1_1.1 x1_1.length p1_1.2), (76, .int .i64 s9.2)]) (bx' := []) (by kernel_rfl) ?_
           refine O.open (d := kd85) (h := p1_1) (i := s9.2) 0 rfl hx22_2 (op85 _) (fun p22_2 hp22_2A => ?_)
           refine O.q (v := .pointer (some ⟨p22_2.1, p22_2.2.1 + s9.2.toNat * 3, none⟩)) (some 77) (Qu.idx (t := 33) (x := .tmp 75) (y := .tmp 76) (c := p1_1.2) (kk := .i64) (sz := 3) (by kernel_rfl) (by kernel_rfl) (by kernel_rfl) (by kernel_rfl) hx22_2a (idx_lt hx22_2) hp22_2A) (by kernel_rfl) ?_
           refine O.pure 2 [(0, 0)] [0, 9, 10, 11, 79] [p22_2.1, p22_2.2.1 + s9.2.toNat * 3] (fr' := [(0, .slice p1_1.1 x1_1.length p1_1.2), (9, .string x11_1), (10, .slice g9.1 s9.1.length g9.2), (11, .int .i64 s9.2), (79, .string x22_2.f0)]) (bx' := []) (by kernel_rfl) ?_
           refine O.q (v := .int .u8 x22_5) (some 80) (Qu.strIdx (t := 9) (x := .tmp 79) (y := .const (.int .i64 0)) (s := x22_2.f0) (kk := .i64) (i := 0) (by kernel_rfl) (by kernel_rfl) (by kernel_rfl) (by kernel_rfl) hx22_5) (by kernel_rfl) ?_
           refine O.q (v := .bool false) (some 81) (Qu.eqv (u := .bool (x22_5 == 99)) (v := .bool false) (0, 0) [] (by kernel_rfl) (congrArg Value.bool hc17)) (by kernel_rfl) ?_
           refine O.pure 9 [] [0, 9, 10, 11, 83, 84, 85, 86, 87, 88, 89, 90] [] (fr' := [(0, .slice p1_1.1 x1_1.length p1_1.2), (9, .string x11_1), (10, .slice g9.1 s9.1.length g9.2), (11, .int .i64 s9.2), (83, undef), (84, undef), (85, undef), (86, undef), (87, undef), (88, undef), (89, undef), (90, .bool false)]) (bx' := []) (by kernel_rfl) ?_
           refine O.nil (by kernel_rfl) ?_
           refine J.cond (o := .tmp 90) false (by kernel_rfl) (by kernel_rfl) ?_
           refine J.skip (by kernel_rfl) ?_
           refine J.out ?_
           refine J.region (by kernel_rfl) ?_
           refine O.pure 3 [] [0, 9, 10, 11, 83, 84, 85, 86, 87, 88, 89] [] (fr' := [(0, .slice p1_1.1 x1_1.length p1_1.2), (9, .string x11_1), (10, .slice g9.1 s9.1.length g9.2), (11, .int .i64 (IntKind.wrap .i64 (s9.2 + 1))), (83, undef), (84, undef), (85, undef), (86, undef), (87, undef), (88, undef), (89, undef)]) (bx' := []) (by kernel_rfl) ?_
           refine O.nil (by kernel_rfl) ?_
           exact J.conv2 [0, 9, 10, 11] [1, 2, 3] [] [0] (by kernel_rfl) (by kernel_rfl) (by kernel_rfl) (by kernel_rfl) (by decide) (ih9 (s9.1, (IntKind.wrap .i64 (s9.2 + 1))) g9 H)
         ·refine J.condF (x := .tmp 72) (t := (decide (s9.2 < (x1_1.length : Int)))) (by kernel_rfl) (by kernel_rfl) hc16 ?_
          refine J.exit (id := 0) (by kernel_rfl) rfl ?_
          refine J.seq (by kernel_rfl) ?_
          refine J.region (by kernel_rfl) ?_
          refine O.pure 3 [] [6, 7] [] (fr' := [(6, .slice g9.1 s9.1.length g9.2), (7, .int .i64 0)]) (bx' := []) (by kernel_rfl) ?_
          refine O.nil (by kernel_rfl) ?_
          obtain rfl := Option.some.inj H
          exact J.doneS [] [] [] [] [0] g9 (vs := [.slice g9.1 s9.1.length g9.2, .int .i64 0]) (by kernel_rfl) (by kernel_rfl) (by kernel_rfl) (by kernel_rfl) (by kernel_rfl) (by decide)
        ·exact J.conv2 [0, 9, 10, 11] [2, 3, 4] [] [0] (by kernel_rfl) (by kernel_rfl) (by kernel_rfl) (by kernel_rfl) (by decide) h_
       ·rcases condE H with ⟨hc19, H⟩ | ⟨hc19, H⟩
        ·refine J.condT (x := .tmp 40) (t := x13_2) (by kernel_rfl) (by kernel_rfl) hc19 ?_
         obtain ⟨y14_4, hy14_4, H⟩ := bindE H
         have hy14_4a := (appE hy14_4).1
         refine J.region (by kernel_rfl) ?_
         refine O.pure 3 [] [0, 1, 2, 9, 10, 41, 43] [] (fr' := [(0, .slice p1_1.1 x1_1.length p1_1.2), (1, .int .i64 a1), (2, .slice h1.1 a2.length h1.2), (9, .string x11_1), (10, .slice none 0 0), (41, .slice none 0 0), (43, .agg #[.int .i64 1, .string x11_1, .slice none 0 0])]) (bx' := [⟨p6_2, [.slice p6_1.1 x6_1.f0.length p6_1.2, .int .i64 x6_1.f1, .bool x6_1.f2, .bool x6_1.f3], 79⟩]) (by kernel_rfl) ?_
         refine O.e (some 44) (Ev.mono (fun w hS => hS.nilrow kd91 91) (Ev.lit (t := 40) (len := 1) (parts := #[(0, .tmp 43)]) (ps := [(0, .agg #[.int .i64 1, .string x11_1, .slice none 0 0])]) (cs := [.int .i64 1, .string x11_1, .slice none 0 0]) (e := 91) kd91 ([(⟨1, x11_1, ([] : List Int)⟩ : S91)] : List S91) (by kernel_rfl) (by kernel_rfl) (by kernel_rfl) (by kernel_rfl) (by kernel_rfl) (by decide) (fun w' hφ => (Els.cons (c := [.int .i64 1, .string x11_1, .slice none 0 0]) (⟨(none, 0), rfl, Rd.nil _ _⟩) (Els.nil _ _ _))))) (by kernel_rfl) (fun p14_3 => ?_)
         refine O.e (some 45) (Ev.appLit (x := .tmp 41) (y := .tmp 44) (t := 40) (bytes := 48) (by kernel_rfl) (by kernel_rfl) (by kernel_rfl) (by kernel_rfl) (by kernel_rfl) (by decide) hy14_4a) (by kernel_rfl) (fun p14_4 => ?_)
         refine O.pure 1 [] [0, 1, 2, 9, 10] [] (fr' := [(0, .slice p1_1.1 x1_1.length p1_1.2), (1, .int .i64 a1), (2, .slice h1.1 a2.length h1.2), (9, .string x11_1), (10, .slice p14_4.1 (([] : List S91) ++ ([(⟨1, x11_1, ([] : List Int)⟩ : S91)] : List S91)).length p14_4.2)]) (bx' := [⟨p6_2, [.slice p6_1.1 x6_1.f0.length p6_1.2, .int .i64 x6_1.f1, .bool x6_1.f2, .bool x6_1.f3], 79⟩]) (by kernel_rfl) ?_
         refine O.nil (by kernel_rfl) ?_
         obtain rfl := Option.some.inj H
         exact J.conv2 [0, 1, 2, 9, 10] [0, 1, 2] [] [0] (by kernel_rfl) (by kernel_rfl) (by kernel_rfl) (by kernel_rfl) (by decide) (hj7 p14_4)
        ·refine J.condF (x := .tmp 40) (t := x13_2) (by kernel_rfl) (by kernel_rfl) hc19 ?_
         refine J.skip (by kernel_rfl) ?_
         obtain rfl := Option.some.inj H
         refine J.nilrow kd91 91 ?_
         exact J.conv2 [0, 1, 2, 9, 10] [0, 1, 2] [] [0] (by kernel_rfl) (by kernel_rfl) (by kernel_rfl) (by kernel_rfl) (by decide) (hj7 (none, 0))
/-! ### haywain/haywainref14.SameChanges: function 18 -/
def haywainref14_SameChanges.l2 (K : Nat) (a0 : List S91) (a1 : List S91) : Nat → Int → Option Bool
  | 0, _ => none
  | k + 1, s2 => cond (decide (s2 < (a0.length : Int))) ((idxO a0 s2).bind fun x6_2 => (idxO a1 s2).bind fun x6_7 => cond (x6_2.f0 != x6_7.f0) (some (false)) ((idxO a0 s2).bind fun x6_14 => (idxO a1 s2).bind fun x6_19 => cond (!(x6_14.f1.toList == x6_19.f1.toList)) (some (false)) ((idxO a0 s2).bind fun x6_27 => (idxO a1 s2).bind fun x6_33 => cond (!((strOfNums x6_27.f2).toList == (strOfNums x6_33.f2).toList)) (some (false)) (haywainref14_SameChanges.l2 K a0 a1 k (IntKind.wrap .i64 (s2 + 1)))))) (some (true))
def haywainref14_SameChanges.f (K : Nat) (a0 : List S91) (a1 : List S91) : Option Bool := cond ((a0.length : Int) != (a1.length : Int)) (some (false)) (haywainref14_SameChanges.l2 K a0 a1 K 0)
set_option maxRecDepth 100000 in
set_option maxHeartbeats 1000000 in
theorem haywainref14_SameChanges.con (K : Nat) (a0 : List S91) (a1 : List S91) (h0 : Hd) (h1 : Hd) (r : Bool) (X : Nat → Nat → Prop) (w : World) (hS : St X w [] [] [] [] [Rd kd91 h0.1 h0.2 a0, Rd kd91 h1.1 h1.2 a1] w) (H : haywainref14_SameChanges.f K a0 a1 = some r) :
    Cn Try.prog 18 [.slice h0.1 a0.length h0.2, .slice h1.1 a1.length h1.2] X w [] (fun i : Unit => .bool r) (fun i => []) (fun i => []) (fun i => []) := by
 refine Cn.of Try.func18 (by kernel_rfl) hS ?_
 unfold haywainref14_SameChanges.f at H
 refine J.seq (by kernel_rfl) ?_
 refine J.region (by kernel_rfl) ?_
 refine O.pure 1 [] [0, 1] [] (fr' := [(0, .slice h0.1 a0.length h0.2), (1, .slice h1.1 a1.length h1.2)]) (bx' := []) (by kernel_rfl) ?_
 refine O.nil (by kernel_rfl) ?_
 refine J.seq (by kernel_rfl) ?_
 refine J.seq (by kernel_rfl) ?_
 refine J.region (by kernel_rfl) ?_
 refine O.pure 5 [] [0, 1, 10] [] (fr' := [(0, .slice h0.1 a0.length h0.2), (1, .slice h1.1 a1.length h1.2), (10, .bool ((a0.length : Int) != (a1.length : Int)))]) (bx' := []) (by kernel_rfl) ?_
 refine O.nil (by kernel_rfl) ?_
 rcases condE H with ⟨hc1, H⟩ | ⟨hc1, H⟩
 ·refine J.condT (x := .tmp 10) (t := ((a0.length : Int) != (a1.length : Int))) (by kernel_rfl) (by kernel_rfl) hc1 ?_
  refine J.seq (by kernel_rfl) ?_
  refine J.region (by kernel_rfl) ?_
  refine O.pure 1 [] [4] [] (fr' := [(4, .bool false)]) (bx' := []) (by kernel_rfl) ?_
  refine O.nil (by kernel_rfl) ?_
  obtain rfl := Option.some.inj H
  exact J.doneS [] [] [] [] [] () (vs := [.bool false]) (by kernel_rfl) (by kernel_rfl) (by kernel_rfl) (by kernel_rfl) (by kernel_rfl) (by decide)
 ·refine J.condF (x := .tmp 10) (t := ((a0.length : Int) != (a1.length : Int))) (by kernel_rfl) (by kernel_rfl) hc1 ?_
  refine J.skip (by kernel_rfl) ?_
  refine J.seq (by kernel_rfl) ?_
  refine J.seq (by kernel_rfl) ?_
  refine J.region (by kernel_rfl) ?_
  refine O.pure 1 [] [0, 1, 5] [] (fr' := [(0, .slice h0.1 a0.length h0.2), (1, .slice h1.1 a1.length h1.2), (5, .int .i64 0)]) (bx' := []) (by kernel_rfl) ?_
  refine O.nil (by kernel_rfl) ?_
  refine J.block (id := 0) (by kernel_rfl) ?_
  refine J.loopI (σ := Int) (γ := Unit) (f := fun m_ s_ => haywainref14_SameChanges.l2 K a0 a1 m_ s_) (fun s2 g2 => [(0, .slice h0.1 a0.length h0.2), (1, .slice h1.1 a1.length h1.2), (5, .int .i64 s2)]) (fun s2 g2 => St X w [] [] [] [] [Rd kd91 h0.1 h0.2 a0, Rd kd91 h1.1 h1.2 a1]) K 0 () (by kernel_rfl) H (fun _ => rfl) (fun m_ s2 H ih2 g2 => ?_) (fun h_ => ?_)
  ·unfold haywainref14_SameChanges.l2 at H
   refine J.seq (by kernel_rfl) ?_
   refine J.seq (by kernel_rfl) ?_
   refine J.region (by kernel_rfl) ?_
   refine O.pure 4 [] [0, 1, 5, 14] [] (fr' := [(0, .slice h0.1 a0.length h0.2), (1, .slice h1.1 a1.length h1.2), (5, .int .i64 s2), (14, .bool (decide (s2 < (a0.length : Int))))]) (bx' := []) (by kernel_rfl) ?_
   refine O.nil (by kernel_rfl) ?_
   rcases condE H with ⟨hc11, H⟩ | ⟨hc11, H⟩
   ·refine J.condT (x := .tmp 14) (t := (decide (s2 < (a0.length : Int)))) (by kernel_rfl) (by kernel_rfl) hc11 ?_
    refine J.skip (by kernel_rfl) ?_
    refine J.seq (by kernel_rfl) ?_
    refine J.block (id := 1) (by kernel_rfl) ?_
    refine J.seq (by kernel_rfl) ?_
    obtain ⟨x6_2, hx6_2, H⟩ := bindE H
    obtain ⟨hx6_2a, hx6_2⟩ := idxE hx6_2
    obtain ⟨x6_7, hx6_7, H⟩ := bindE H
    obtain ⟨hx6_7a, hx6_7⟩ := idxE hx6_7
    rcases condE H with ⟨hc12, H⟩ | ⟨hc12, H⟩
    ·refine J.open (d := kd91) (h := h0) (i := s2) 0 rfl hx6_2 (op91 _) (fun p6_2 hp6_2A => ?_)
     refine J.open (d := kd91) (h := h1) (i := s2) 2 rfl hx6_7 (op91 _) (fun p6_7 hp6_7A => ?_)
     refine J.drawS (by kernel_rfl) [(0, some 17, .slice h0.1 a0.length h0.2), (1, some 18, .int .i64 s2), (3, some 20, .pointer (some ⟨p6_2.1, p6_2.2.1 + s2.toNat * 3, none⟩)), (4, some 21, .int .i64 x6_2.f0), (5, some 22, .slice h1.1 a1.length h1.2), (6, some 23, .int .i64 s2), (8, some 25, .pointer (some ⟨p6_7.1, p6_7.2.1 + s2.toNat * 3, none⟩)), (9, some 26, .int .i64 x6_7.f0), (11, some 28, .bool true), (12, some 29, undef), (13, some 30, undef), (14, some 31, undef), (15, some 32, undef), (16, some 33, undef), (17, some 34, undef), (18, some 35, undef), (19, some 36, undef), (20, some 37, undef), (21, some 38, undef), (22, some 39, undef), (23, some 40, .bool true), (24, some 41, .bool true), (25, some 42, undef), (26, some 43, undef), (27, some 44, undef), (28, some 45, undef), (29, some 46, undef), (30, some 47, undef), (31, some 48, undef), (32, some 49, undef), (33, some 50, undef), (34, some 51, undef), (35, some 52, undef), (36, some 53, undef), (37, some 54, undef), (38, some 55, .bool true), (2, some 19, .pointer (some ⟨p6_2.1, p6_2.2.1 + s2.toNat * 3, none⟩)), (7, some 24, .pointer (some ⟨p6_7.1, p6_7.2.1 + s2.toNat * 3, none⟩)), (10, some 27, .bool true)] ([0, 1, 3, 4, 5, 6, 8, 9, 11, 12, 13, 14, 15, 16, 17, 18, 19, 20, 21, 22, 23, 24, 25, 26, 27, 28, 29, 30, 31, 32, 33, 34, 35, 36, 37, 38] ++ [2, 7, 10]) (by kernel_rfl) ?_
     refine D.fin (fr' := [(0, .slice h0.1 a0.length h0.2), (1, .slice h1.1 a1.length h1.2), (5, .int .i64 s2), (29, undef), (30, undef), (31, undef), (32, undef), (33, undef), (34, undef), (35, undef), (36, undef), (37, undef), (38, undef), (39, undef), (42, undef), (43, undef), (44, undef), (45, undef), (46, undef), (47, undef), (48, undef), (49, undef), (50, undef), (51, undef), (52, undef), (53, undef), (54, undef), (55, .bool true)]) [0, 1, 3, 4, 5, 6, 8, 9, 11, 12, 13, 14, 15, 16, 17, 18, 19, 20, 21, 22, 23, 24, 25, 26, 27, 28, 29, 30, 31, 32, 33, 34, 35, 36, 37, 38] [2, 7, 10] [(1, 0), (0, 0)] [p6_2.1, p6_2.2.1 + s2.toNat * 3, p6_7.1, p6_7.2.1 + s2.toNat * 3] [0, 1, 5, 29, 30, 31, 32, 33, 34, 35, 36, 37, 38, 39, 42, 43, 44, 45, 46, 47, 48, 49, 50, 51, 52, 53, 54, 55] (by kernel_rfl) (by kernel_rfl) (⟨QuAt.mk (v := .pointer (some ⟨p6_2.1, p6_2.2.1 + s2.toNat * 3, none⟩)) (some 19) (by kernel_rfl) (by kernel_rfl) (Qu.idx (t := 40) (x := .tmp 17) (y := .tmp 18) (c := h0.2) (kk := .i64) (sz := 3) (by kernel_rfl) (by kernel_rfl) (by kernel_rfl) (by kernel_rfl) hx6_2a (idx_lt hx6_2) hp6_2A), QuAt.mk (v := .pointer (some ⟨p6_7.1, p6_7.2.1 + s2.toNat * 3, none⟩)) (some 24) (by kernel_rfl) (by kernel_rfl) (Qu.idx (t := 40) (x := .tmp 22) (y := .tmp 23) (c := h1.2) (kk := .i64) (sz := 3) (by kernel_rfl) (by kernel_rfl) (by kernel_rfl) (by kernel_rfl) hx6_7a (idx_lt hx6_7) hp6_7A), QuAt.mk (v := .bool true) (some 27) (by kernel_rfl) (by kernel_rfl) (Qu.eqv (u := .bool (x6_2.f0 != x6_7.f0)) (v := .bool true) (0, 0) [] (by kernel_rfl) (congrArg Value.bool hc12)), trivial⟩) (by kernel_rfl) ?_
     refine J.cond (o := .tmp 55) true (by kernel_rfl) (by kernel_rfl) ?_
     refine J.seq (by kernel_rfl) ?_
     refine J.region (by kernel_rfl) ?_
     refine O.pure 1 [] [4] [] (fr' := [(4, .bool false)]) (bx' := []) (by kernel_rfl) ?_
     refine O.nil (by kernel_rfl) ?_
     obtain rfl := Option.some.inj H
     exact J.doneS [] [] [] [] [] () (vs := [.bool false]) (by kernel_rfl) (by kernel_rfl) (by kernel_rfl) (by kernel_rfl) (by kernel_rfl) (by decide)
    ·obtain ⟨x6_14, hx6_14, H⟩ := bindE H
     obtain ⟨hx6_14a, hx6_14⟩ := idxE hx6_14
     obtain ⟨x6_19, hx6_19, H⟩ := bindE H
     obtain ⟨hx6_19a, hx6_19⟩ := idxE hx6_19
     rcases condE H with ⟨hc13, H⟩ | ⟨hc13, H⟩
     ·refine J.open (d := kd91) (h := h0) (i := s2) 0 rfl hx6_2 (op91 _) (fun p6_2 hp6_2A => ?_)
      refine J.open (d := kd91) (h := h1) (i := s2) 2 rfl hx6_7 (op91 _) (fun p6_7 hp6_7A => ?_)
      refine J.open (d := kd91) (h := h0) (i := s2) 2 rfl hx6_14 (op91 _) (fun p6_14 hp6_14A => ?_)
      refine J.open (d := kd91) (h := h1) (i := s2) 4 rfl hx6_19 (op91 _) (fun p6_19 hp6_19A => ?_)
      refine J.drawS (by kernel_rfl) [(0, some 17, .slice h0.1 a0.length h0.2), (1, some 18, .int .i64 s2), (3, some 20, .pointer (some ⟨p6_2.1, p6_2.2.1 + s2.toNat * 3, none⟩)), (4, some 21, .int .i64 x6_2.f0), (5, some 22, .slice h1.1 a1.length h1.2), (6, some 23, .int .i64 s2), (8, some 25, .pointer (some ⟨p6_7.1, p6_7.2.1 + s2.toNat * 3, none⟩)), (9, some 26, .int .i64 x6_7.f0), (11, some 28, .bool false), (12, some 29, .slice h0.1 a0.length h0.2), (13, some 30, .int .i64 s2), (15, some 32, .pointer (some ⟨p6_14.1, p6_14.2.1 + s2.toNat * 3 + 1, none⟩)), (16, some 33, .string x6_14.f1), (17, some 34, .slice h1.1 a1.length h1.2), (18, some 35, .int .i64 s2), (20, some 37, .pointer (some ⟨p6_19.1, p6_19.2.1 + s2.toNat * 3 + 1, none⟩)), (21, some 38, .string x6_19.f1), (23, some 40, .bool true), (24, some 41, .bool true), (25, some 42, undef), (26, some 43, undef), (27, some 44, undef), (28, some 45, undef), (29, some 46, undef), (30, some 47, undef), (31, some 48, undef), (32, some 49, undef), (33, some 50, undef), (34, some 51, undef), (35, some 52, undef), (36, some 53, undef), (37, some 54, undef), (38, some 55, .bool true), (2, some 19, .pointer (some ⟨p6_2.1, p6_2.2.1 + s2.toNat * 3, none⟩)), (7, some 24, .pointer (some ⟨p6_7.1, p6_7.2.1 + s2.toNat * 3, none⟩)), (10, some 27, .bool false), (14, some 31, .pointer (some ⟨p6_14.1, p6_14.2.1 + s2.toNat * 3, none⟩)), (19, some 36, .pointer (some ⟨p6_19.1, p6_19.2.1 + s2.toNat * 3, none⟩)), (22, some 39, .bool true)] ([0, 1, 3, 4, 5, 6, 8, 9, 11, 12, 13, 15, 16, 17, 18, 20, 21, 23, 24, 25, 26, 27, 28, 29, 30, 31, 32, 33, 34, 35, 36, 37, 38] ++ [2, 7, 10, 14, 19, 22]) (by kernel_rfl) ?_
      refine D.fin (fr' := [(0, .slice h0.1 a0.length h0.2), (1, .slice h1.1 a1.length h1.2), (5, .int .i64 s2), (29, .slice h0.1 a0.length h0.2), (30, .int .i64 s2), (31, .pointer (some ⟨p6_14.1, p6_14.2.1 + s2.toNat * 3, none⟩)), (32, .pointer (some ⟨p6_14.1, p6_14.2.1 + s2.toNat * 3 + 1, none⟩)), (33, .string x6_14.f1), (34, .slice h1.1 a1.length h1.2), (35, .int .i64 s2), (36, .pointer (some ⟨p6_19.1, p6_19.2.1 + s2.toNat * 3, none⟩)), (37, .pointer (some ⟨p6_19.1, p6_19.2.1 + s2.toNat * 3 + 1, none⟩)), (38, .string x6_19.f1), (39, .bool true), (42, undef), (43, undef), (44, undef), (45, undef), (46, undef), (47, undef), (48, undef), (49, undef), (50, undef), (51, undef), (52, undef), (53, undef), (54, undef), (55, .bool true)]) [0, 1, 3, 4, 5, 6, 8, 9, 11, 12, 13, 15, 16, 17, 18, 20, 21, 23, 24, 25, 26, 27, 28, 29, 30, 31, 32, 33, 34, 35, 36, 37, 38] [2, 7, 10, 14, 19, 22] [(3, 0), (2, 0), (1, 1), (0, 1)] [p6_2.1, p6_2.2.1 + s2.toNat * 3, p6_7.1, p6_7.2.1 + s2.toNat * 3, p6_14.1, p6_14.2.1 + s2.toNat * 3 + 1, p6_19.1, p6_19.2.1 + s2.toNat * 3 + 1] [0, 1, 5, 29, 30, 31, 32, 33, 34, 35, 36, 37, 38, 39, 42, 43, 44, 45, 46, 47, 48, 49, 50, 51, 52, 53, 54, 55] (by kernel_rfl) (by kernel_rfl) (⟨QuAt.mk (v := .pointer (some ⟨p6_2.1, p6_2.2.1 + s2.toNat * 3, none⟩)) (some 19) (by kernel_rfl) (by kernel_rfl) (Qu.idx (t := 40) (x := .tmp 17) (y := .tmp 18) (c := h0.2) (kk := .i64) (sz := 3) (by kernel_rfl) (by kernel_rfl) (by kernel_rfl) (by kernel_rfl) hx6_2a (idx_lt hx6_2) hp6_2A), QuAt.mk (v := .pointer (some ⟨p6_7.1, p6_7.2.1 + s2.toNat * 3, none⟩)) (some 24) (by kernel_rfl) (by kernel_rfl) (Qu.idx (t := 40) (x := .tmp 22) (y := .tmp 23) (c := h1.2) (kk := .i64) (sz := 3) (by kernel_rfl) (by kernel_rfl) (by kernel_rfl) (by kernel_rfl) hx6_7a (idx_lt hx6_7) hp6_7A), QuAt.mk (v := .bool false) (some 27) (by kernel_rfl) (by kernel_rfl) (Qu.eqv (u := .bool (x6_2.f0 != x6_7.f0)) (v := .bool false) (0, 0) [] (by kernel_rfl) (congrArg Value.bool hc12)), QuAt.mk (v := .pointer (some ⟨p6_14.1, p6_14.2.1 + s2.toNat * 3, none⟩)) (some 31) (by kernel_rfl) (by kernel_rfl) (Qu.idx (t := 40) (x := .tmp 29) (y := .tmp 30) (c := h0.2) (kk := .i64) (sz := 3) (by kernel_rfl) (by kernel_rfl) (by kernel_rfl) (by kernel_rfl) hx6_14a (idx_lt hx6_14) hp6_14A), QuAt.mk (v := .pointer (some ⟨p6_19.1, p6_19.2.1 + s2.toNat * 3, none⟩)) (some 36) (by kernel_rfl) (by kernel_rfl) (Qu.idx (t := 40) (x := .tmp 34) (y := .tmp 35) (c := h1.2) (kk := .i64) (sz := 3) (by kernel_rfl) (by kernel_rfl) (by kernel_rfl) (by kernel_rfl) hx6_19a (idx_lt hx6_19) hp6_19A), QuAt.mk (v := .bool true) (some 39) (by kernel_rfl) (by kernel_rfl) (Qu.eqv (u := .bool (!(x6_14.f1.toList == x6_19.f1.toList))) (v := .bool true) (0, 0) [] (by kernel_rfl) (congrArg Value.bool hc13)), trivial⟩) (by kernel_rfl) ?_
      refine J.cond (o := .tmp 55) true (by kernel_rfl) (by kernel_rfl) ?_
      refine J.seq (by kernel_rfl) ?_
      refine J.region (by kernel_rfl) ?_
      refine O.pure 1 [] [4] [] (fr' := [(4, .bool false)]) (bx' := []) (by kernel_rfl) ?_
      refine O.nil (by kernel_rfl) ?_
      obtain rfl := Option.some.inj H
      exact J.doneS [] [] [] [] [] () (vs := [.bool false]) (by kernel_rfl) (by kernel_rfl) (by kernel_rfl) (by kernel_rfl) (by kernel_rfl) (by decide)
     ·obtain ⟨x6_27, hx6_27, H⟩ := bindE H
      obtain ⟨hx6_27a, hx6_27⟩ := idxE hx6_27
      obtain ⟨x6_33, hx6_33, H⟩ := bindE H
      obtain ⟨hx6_33a, hx6_33⟩ := idxE hx6_33
      refine J.open (d := kd91) (h := h0) (i := s2) 0 rfl hx6_2 (op91 _) (fun p6_2 hp6_2A => ?_)
      refine J.open (d := kd91) (h := h1) (i := s2) 2 rfl hx6_7 (op91 _) (fun p6_7 hp6_7A => ?_)
      refine J.open (d := kd91) (h := h0) (i := s2) 2 rfl hx6_14 (op91 _) (fun p6_14 hp6_14A => ?_)
      refine J.open (d := kd91) (h := h1) (i := s2) 4 rfl hx6_19 (op91 _) (fun p6_19 hp6_19A => ?_)
      refine J.open (d := kd91) (h := h0) (i := s2) 4 rfl hx6_27 (op91 _) (fun p6_27 hp6_27A => ?_)
      refine J.open (d := kd91) (h := h1) (i := s2) 6 rfl hx6_33 (op91 _) (fun p6_33 hp6_33A => ?_)
      refine J.drawS (by kernel_rfl) [(0, some 17, .slice h0.1 a0.length h0.2), (1, some 18, .int .i64 s2), (3, some 20, .pointer (some ⟨p6_2.1, p6_2.2.1 + s2.toNat * 3, none⟩)), (4, some 21, .int .i64 x6_2.f0), (5, some 22, .slice h1.1 a1.length h1.2), (6, some 23, .int .i64 s2), (8, some 25, .pointer (some ⟨p6_7.1, p6_7.2.1 + s2.toNat * 3, none⟩)), (9, some 26, .int .i64 x6_7.f0), (11, some 28, .bool false), (12, some 29, .slice h0.1 a0.length h0.2), (13, some 30, .int .i64 s2), (15, some 32, .pointer (some ⟨p6_14.1, p6_14.2.1 + s2.toNat * 3 + 1, none⟩)), (16, some 33, .string x6_14.f1), (17, some 34, .slice h1.1 a1.length h1.2), (18, some 35, .int .i64 s2), (20, some 37, .pointer (some ⟨p6_19.1, p6_19.2.1 + s2.toNat * 3 + 1, none⟩)), (21, some 38, .string x6_19.f1), (23, some 40, .bool false), (24, some 41, .bool false), (25, some 42, .slice h0.1 a0.length h0.2), (26, some 43, .int .i64 s2), (28, some 45, .pointer (some ⟨p6_27.1, p6_27.2.1 + s2.toNat * 3 + 2, none⟩)), (29, some 46, .slice p6_27.2.2.1 x6_27.f2.length p6_27.2.2.2), (31, some 48, .slice h1.1 a1.length h1.2), (32, some 49, .int .i64 s2), (34, some 51, .pointer (some ⟨p6_33.1, p6_33.2.1 + s2.toNat * 3 + 2, none⟩)), (35, some 52, .slice p6_33.2.2.1 x6_33.f2.length p6_33.2.2.2), (37, some 54, .bool (!((strOfNums x6_27.f2).toList == (strOfNums x6_33.f2).toList))), (38, some 55, .bool (!((strOfNums x6_27.f2).toList == (strOfNums x6_33.f2).toList))), (2, some 19, .pointer (some ⟨p6_2.1, p6_2.2.1 + s2.toNat * 3, none⟩)), (7, some 24, .pointer (some ⟨p6_7.1, p6_7.2.1 + s2.toNat * 3, none⟩)), (10, some 27, .bool false), (14, some 31, .pointer (some ⟨p6_14.1, p6_14.2.1 + s2.toNat * 3, none⟩)), (19, some 36, .pointer (some ⟨p6_19.1, p6_19.2.1 + s2.toNat * 3, none⟩)), (22, some 39, .bool false), (27, some 44, .pointer (some ⟨p6_27.1, p6_27.2.1 + s2.toNat * 3, none⟩)), (30, some 47, .string (strOfNums x6_27.f2)), (33, some 50, .pointer (some ⟨p6_33.1, p6_33.2.1 + s2.toNat * 3, none⟩)), (36, some 53, .string (strOfNums x6_33.f2))] ([0, 1, 3, 4, 5, 6, 8, 9, 11, 12, 13, 15, 16, 17, 18, 20, 21, 23, 24, 25, 26, 28, 29, 31, 32, 34, 35, 37, 38] ++ [2, 7, 10, 14, 19, 22, 27, 30, 33, 36]) (by kernel_rfl) ?_
      refine D.fin (fr' := [(0, .slice h0.1 a0.length h0.2), (1, .slice h1.1 a1.length h1.2), (5, .int .i64 s2), (29, .slice h0.1 a0.length h0.2), (30, .int .i64 s2), (31, .pointer (some ⟨p6_14.1, p6_14.2.1 + s2.toNat * 3, none⟩)), (32, .pointer (some ⟨p6_14.1, p6_14.2.1 + s2.toNat * 3 + 1, none⟩)), (33, .string x6_14.f1), (34, .slice h1.1 a1.length h1.2), (35, .int .i64 s2), (36, .pointer (some ⟨p6_19.1, p6_19.2.1 + s2.toNat * 3, none⟩)), (37, .pointer (some ⟨p6_19.1, p6_19.2.1 + s2.toNat * 3 + 1, none⟩)), (38, .string x6_19.f1), (39, .bool false), (42, .slice h0.1 a0.length h0.2), (43, .int .i64 s2), (44, .pointer (some ⟨p6_27.1, p6_27.2.1 + s2.toNat * 3, none⟩)), (45, .pointer (some ⟨p6_27.1, p6_27.2.1 + s2.toNat * 3 + 2, none⟩)), (46, .slice p6_27.2.2.1 x6_27.f2.length p6_27.2.2.2), (47, .string (strOfNums x6_27.f2)), (48, .slice h1.1 a1.length h1.2), (49, .int .i64 s2), (50, .pointer (some ⟨p6_33.1, p6_33.2.1 + s2.toNat * 3, none⟩)), (51, .pointer (some ⟨p6_33.1, p6_33.2.1 + s2.toNat * 3 + 2, none⟩)), (52, .slice p6_33.2.2.1 x6_33.f2.length p6_33.2.2.2), (53, .string (strOfNums x6_33.f2)), (54, .bool (!((strOfNums x6_27.f2).toList == (strOfNums x6_33.f2).toList))), (55, .bool (!((strOfNums x6_27.f2).toList == (strOfNums x6_33.f2).toList)))]) [0, 1, 3, 4, 5, 6, 8, 9, 11, 12, 13, 15, 16, 17, 18, 20, 21, 23, 24, 25, 26, 28, 29, 31, 32, 34, 35, 37, 38] [2, 7, 10, 14, 19, 22, 27, 30, 33, 36] [(5, 0), (4, 0), (3, 1), (2, 1), (1, 2), (0, 2)] [p6_2.1, p6_2.2.1 + s2.toNat * 3, p6_7.1, p6_7.2.1 + s2.toNat * 3, p6_14.1, p6_14.2.1 + s2.toNat * 3 + 1, p6_19.1, p6_19.2.1 + s2.toNat * 3 + 1, p6_27.1, p6_27.2.1 + s2.toNat * 3 + 2, p6_33.1, p6_33.2.1 + s2.toNat * 3 + 2] [0, 1, 5, 29, 30, 31, 32, 33, 34, 35, 36, 37, 38, 39, 42, 43, 44, 45, 46, 47, 48, 49, 50, 51, 52, 53, 54, 55] (by kernel_rfl) (by kernel_rfl) (⟨QuAt.mk (v := .pointer (some ⟨p6_2.1, p6_2.2.1 + s2.toNat * 3, none⟩)) (some 19) (by kernel_rfl) (by kernel_rfl) (Qu.idx (t := 40) (x := .tmp 17) (y := .tmp 18) (c := h0.2) (kk := .i64) (sz := 3) (by kernel_rfl) (by kernel_rfl) (by kernel_rfl) (by kernel_rfl) hx6_2a (idx_lt hx6_2) hp6_2A), QuAt.mk (v := .pointer (some ⟨p6_7.1, p6_7.2.1 + s2.toNat * 3, none⟩)) (some 24) (by kernel_rfl) (by kernel_rfl) (Qu.idx (t := 40) (x := .tmp 22) (y := .tmp 23) (c := h1.2) (kk := .i64) (sz := 3) (by kernel_rfl) (by kernel_rfl) (by kernel_rfl) (by kernel_rfl) hx6_7a (idx_lt hx6_7) hp6_7A), QuAt.mk (v := .bool false) (some 27) (by kernel_rfl) (by kernel_rfl) (Qu.eqv (u := .bool (x6_2.f0 != x6_7.f0)) (v := .bool false) (0, 0) [] (by kernel_rfl) (congrArg Value.bool hc12)), QuAt.mk (v := .pointer (some ⟨p6_14.1, p6_14.2.1 + s2.toNat * 3, none⟩)) (some 31) (by kernel_rfl) (by kernel_rfl) (Qu.idx (t := 40) (x := .tmp 29) (y := .tmp 30) (c := h0.2) (kk := .i64) (sz := 3) (by kernel_rfl) (by kernel_rfl) (by kernel_rfl) (by kernel_rfl) hx6_14a (idx_lt hx6_14) hp6_14A), QuAt.mk (v := .pointer (some ⟨p6_19.1, p6_19.2.1 + s2.toNat * 3, none⟩)) (some 36) (by kernel_rfl) (by kernel_rfl) (Qu.idx (t := 40) (x := .tmp 34) (y := .tmp 35) (c := h1.2) (kk := .i64) (sz := 3) (by kernel_rfl) (by kernel_rfl) (by kernel_rfl) (by kernel_rfl) hx6_19a (idx_lt hx6_19) hp6_19A), QuAt.mk (v := .bool false) (some 39) (by kernel_rfl) (by kernel_rfl) (Qu.eqv (u := .bool (!(x6_14.f1.toList == x6_19.f1.toList))) (v := .bool false) (0, 0) [] (by kernel_rfl) (congrArg Value.bool hc13)), QuAt.mk (v := .pointer (some ⟨p6_27.1, p6_27.2.1 + s2.toNat * 3, none⟩)) (some 44) (by kernel_rfl) (by kernel_rfl) (Qu.idx (t := 40) (x := .tmp 42) (y := .tmp 43) (c := h0.2) (kk := .i64) (sz := 3) (by kernel_rfl) (by kernel_rfl) (by kernel_rfl) (by kernel_rfl) hx6_27a (idx_lt hx6_27) hp6_27A), QuAt.mk (v := .string (strOfNums x6_27.f2)) (some 47) (by kernel_rfl) (by kernel_rfl) (Qu.str (t := 27) (u := 9) (x := .tmp 46) (h := p6_27.2.2) (xs := x6_27.f2) 1 (by kernel_rfl) (by kernel_rfl) (by kernel_rfl) (by kernel_rfl) rfl), QuAt.mk (v := .pointer (some ⟨p6_33.1, p6_33.2.1 + s2.toNat * 3, none⟩)) (some 50) (by kernel_rfl) (by kernel_rfl) (Qu.idx (t := 40) (x := .tmp 48) (y := .tmp 49) (c := h1.2) (kk := .i64) (sz := 3) (by kernel_rfl) (by kernel_rfl) (by kernel_rfl) (by kernel_rfl) hx6_33a (idx_lt hx6_33) hp6_33A), QuAt.mk (v := .string (strOfNums x6_33.f2)) (some 53) (by kernel_rfl) (by kernel_rfl) (Qu.str (t := 27) (u := 9) (x := .tmp 52) (h := p6_33.2.2) (xs := x6_33.f2) 0 (by kernel_rfl) (by kernel_rfl) (by kernel_rfl) (by kernel_rfl) rfl), trivial⟩) (by kernel_rfl) ?_
      rcases condE H with ⟨hc14, H⟩ | ⟨hc14, H⟩
      ·refine J.condT (x := .tmp 55) (t := (!((strOfNums x6_27.f2).toList == (strOfNums x6_33.f2).toList))) (by kernel_rfl) (by kernel_rfl) hc14 ?_
       refine J.seq (by kernel_rfl) ?_
       refine J.region (by kernel_rfl) ?_
       refine O.pure 1 [] [4] [] (fr' := [(4, .bool false)]) (bx' := []) (by kernel_rfl) ?_
       refine O.nil (by kernel_rfl) ?_
       obtain rfl := Option.some.inj H
       exact J.doneS [] [] [] [] [] () (vs := [.bool false]) (by kernel_rfl) (by kernel_rfl) (by kernel_rfl) (by kernel_rfl) (by kernel_rfl) (by decide)
      ·refine J.condF (x := .tmp 55) (t := (!((strOfNums x6_27.f2).toList == (strOfNums x6_33.f2).toList))) (by kernel_rfl) (by kernel_rfl) hc14 ?_
       refine J.skip (by kernel_rfl) ?_
       refine J.out ?_
       refine J.region (by kernel_rfl) ?_
       refine O.pure 3 [] [0, 1, 5, 29, 30, 31, 32, 33, 34, 35, 36, 37, 38, 39, 42, 43, 44, 45, 46, 47, 48, 49, 50, 51, 52, 53, 54] [] (fr' := [(0, .slice h0.1 a0.length h0.2), (1, .slice h1.1 a1.length h1.2), (5, .int .i64 (IntKind.wrap .i64 (s2 + 1))), (29, .slice h0.1 a0.length h0.2), (30, .int .i64 s2), (31, .pointer (some ⟨p6_14.1, p6_14.2.1 + s2.toNat * 3, none⟩)), (32, .pointer (some ⟨p6_14.1, p6_14.2.1 + s2.toNat * 3 + 1, none⟩)), (33, .string x6_14.f1), (34, .slice h1.1 a1.length h1.2), (35, .int .i64 s2), (36, .pointer (some ⟨p6_19.1, p6_19.2.1 + s2.toNat * 3, none⟩)), (37, .pointer (some ⟨p6_19.1, p6_19.2.1 + s2.toNat * 3 + 1, none⟩)), (38, .string x6_19.f1), (39, .bool false), (42, .slice h0.1 a0.length h0.2), (43, .int .i64 s2), (44, .pointer (some ⟨p6_27.1, p6_27.2.1 + s2.toNat * 3, none⟩)), (45, .pointer (some ⟨p6_27.1, p6_27.2.1 + s2.toNat * 3 + 2, none⟩)), (46, .slice p6_27.2.2.1 x6_27.f2.length p6_27.2.2.2), (47, .string (strOfNums x6_27.f2)), (48, .slice h1.1 a1.length h1.2), (49, .int .i64 s2), (50, .pointer (some ⟨p6_33.1, p6_33.2.1 + s2.toNat * 3, none⟩)), (51, .pointer (some ⟨p6_33.1, p6_33.2.1 + s2.toNat * 3 + 2, none⟩)), (52, .slice p6_33.2.2.1 x6_33.f2.length p6_33.2.2.2), (53, .string (strOfNums x6_33.f2)), (54, .bool (!((strOfNums x6_27.f2).toList == (strOfNums x6_33.f2).toList)))]) (bx' := []) (by kernel_rfl) ?_
       refine O.nil (by kernel_rfl) ?_
       exact J.conv2 [0, 1, 5] [6, 7] [] [] (by kernel_rfl) (by kernel_rfl) (by kernel_rfl) (by kernel_rfl) (by decide) (ih2 (IntKind.wrap .i64 (s2 + 1)) () H)
   ·refine J.condF (x := .tmp 14) (t := (decide (s2 < (a0.length : Int)))) (by kernel_rfl) (by kernel_rfl) hc11 ?_
    refine J.exit (id := 0) (by kernel_rfl) rfl ?_
    refine J.seq (by kernel_rfl) ?_
    refine J.region (by kernel_rfl) ?_
    refine O.pure 1 [] [4] [] (fr' := [(4, .bool true)]) (bx' := []) (by kernel_rfl) ?_
    refine O.nil (by kernel_rfl) ?_
    obtain rfl := Option.some.inj H
    exact J.doneS [] [] [] [] [] () (vs := [.bool true]) (by kernel_rfl) (by kernel_rfl) (by kernel_rfl) (by kernel_rfl) (by kernel_rfl) (by decide)
  ·exact J.conv2 [0, 1, 5] [0, 1] [] [] (by kernel_rfl) (by kernel_rfl) (by kernel_rfl) (by kernel_rfl) (by decide) h_
/-! ### haywain/haywainlaw14.as: function 19 -/
def haywainlaw14_as.l1 (K : Nat) (a0 : List S48) : Nat → ((List S91) × Int) → Option (List S91)
  | 0, _ => none
  | k + 1, s1 => cond (decide (s1.2 < (a0.length : Int))) ((idxO a0 s1.2).bind fun x5_3 => (idxO a0 s1.2).bind fun x5_8 => (idxO a0 s1.2).bind fun x5_13 => (appO 48 s1.1 ([(⟨x5_3.f0, x5_8.f1, x5_13.f2⟩ : S91)] : List S91)).bind fun y5_18 => haywainlaw14_as.l1 K a0 k ((s1.1 ++ ([(⟨x5_3.f0, x5_8.f1, x5_13.f2⟩ : S91)] : List S91)), (IntKind.wrap .i64 (s1.2 + 1)))) (some (s1.1))
def haywainlaw14_as.f (K : Nat) (a0 : List S48) : Option (List S91) := haywainlaw14_as.l1 K a0 K (([] : List S91), 0)
set_option maxRecDepth 100000 in
set_option maxHeartbeats 1000000 in
theorem haywainlaw14_as.con (K : Nat) (a0 : List S48) (h0 : Hd) (r : (List S91)) (X : Nat → Nat → Prop) (w : World) (hS : St X w [] [] [] [] [Rd kd48 h0.1 h0.2 a0] w) (H : haywainlaw14_as.f K a0 = some r) :
    Cn Try.prog 19 [.slice h0.1 a0.length h0.2] X w [] (fun i : Hd => .slice i.1 r.length i.2) (fun i => []) (fun i => [mkRow kd91 91 (.slice i.1 r.length i.2) r]) (fun i => []) := by
 refine Cn.of Try.func19 (by kernel_rfl) hS ?_
 unfold haywainlaw14_as.f at H
 refine J.seq (by kernel_rfl) ?_
 refine J.region (by kernel_rfl) ?_
 refine O.pure 1 [] [0] [] (fr' := [(0, .slice h0.1 a0.length h0.2)]) (bx' := []) (by kernel_rfl) ?_
 refine O.nil (by kernel_rfl) ?_
 refine J.seq (by kernel_rfl) ?_
 refine J.region (by kernel_rfl) ?_
 refine O.pure 1 [] [0, 3] [] (fr' := [(0, .slice h0.1 a0.length h0.2), (3, .slice none 0 0)]) (bx' := []) (by kernel_rfl) ?_
 refine O.nil (by kernel_rfl) ?_
 refine J.seq (by kernel_rfl) ?_
 refine J.seq (by kernel_rfl) ?_
 refine J.region (by kernel_rfl) ?_
 refine O.pure 1 [] [0, 3, 4] [] (fr' := [(0, .slice h0.1 a0.length h0.2), (3, .slice none 0 0), (4, .int .i64 0)]) (bx' := []) (by kernel_rfl) ?_
 refine O.nil (by kernel_rfl) ?_
 refine J.block (id := 0) (by kernel_rfl) ?_
 refine J.loopI (σ := (List S91) × Int) (γ := Hd) (f := fun m_ s_ => haywainlaw14_as.l1 K a0 m_ s_) (fun s1 g1 => [(0, .slice h0.1 a0.length h0.2), (3, .slice g1.1 s1.1.length g1.2), (4, .int .i64 s1.2)]) (fun s1 g1 => St X w [] [] [mkRow kd91 91 (.slice g1.1 s1.1.length g1.2) s1.1] [] [Rd kd48 h0.1 h0.2 a0]) K (([] : List S91), 0) (none, 0) (by kernel_rfl) H (fun _ => rfl) (fun m_ s1 H ih1 g1 => ?_) (fun h_ => ?_)
 ·unfold haywainlaw14_as.l1 at H
  refine J.seq (by kernel_rfl) ?_
  refine J.seq (by kernel_rfl) ?_
  refine J.region (by kernel_rfl) ?_
  refine O.pure 4 [] [0, 3, 4, 8] [] (fr' := [(0, .slice h0.1 a0.length h0.2), (3, .slice g1.1 s1.1.length g1.2), (4, .int .i64 s1.2), (8, .bool (decide (s1.2 < (a0.length : Int))))]) (bx' := []) (by kernel_rfl) ?_
  refine O.nil (by kernel_rfl) ?_
  rcases condE H with ⟨hc4, H⟩ | ⟨hc4, H⟩
  ·refine J.condT (x := .tmp 8) (t := (decide (s1.2 < (a0.length : Int)))) (by kernel_rfl) (by kernel_rfl) hc4 ?_
   refine J.skip (by kernel_rfl) ?_
   refine J.seq (by kernel_rfl) ?_
   refine J.block (id := 1) (by kernel_rfl) ?_
   obtain ⟨x5_3, hx5_3, H⟩ := bindE H
   obtain ⟨hx5_3a, hx5_3⟩ := idxE hx5_3
   obtain ⟨x5_8, hx5_8, H⟩ := bindE H
   obtain ⟨hx5_8a, hx5_8⟩ := idxE hx5_8
   obtain ⟨x5_13, hx5_13, H⟩ := bindE H
   obtain ⟨hx5_13a, hx5_13⟩ := idxE hx5_13
   obtain ⟨y5_18, hy5_18, H⟩ := bindE H
   have hy5_18a := (appE hy5_18).1
   refine J.open (d := kd48) (h := h0) (i := s1.2) 0 rfl hx5_3 (op48 _) (fun p5_3 hp5_3A => ?_)
   refine J.open (d := kd48) (h := h0) (i := s1.2) 1 rfl hx5_8 (op48 _) (fun p5_8 hp5_8A => ?_)
   refine J.open (d := kd48) (h := h0) (i := s1.2) 2 rfl hx5_13 (op48 _) (fun p5_13 hp5_13A => ?_)
   refine J.drawS (by kernel_rfl) [(0, some 11, .slice g1.1 s1.1.length g1.2), (1, some 12, .slice h0.1 a0.length h0.2), (2, some 13, .int .i64 s1.2), (4, some 15, .pointer (some ⟨p5_3.1, p5_3.2.1 + s1.2.toNat * 3, none⟩)), (5, some 16, .int .i64 x5_3.f0), (6, some 17, .slice h0.1 a0.length h0.2), (7, some 18, .int .i64 s1.2), (9, some 20, .pointer (some ⟨p5_8.1, p5_8.2.1 + s1.2.toNat * 3 + 1, none⟩)), (10, some 21, .string x5_8.f1), (11, some 22, .slice h0.1 a0.length h0.2), (12, some 23, .int .i64 s1.2), (14, some 25, .pointer (some ⟨p5_13.1, p5_13.2.1 + s1.2.toNat * 3 + 2, none⟩)), (15, some 26, .slice p5_13.2.2.1 x5_13.f2.length p5_13.2.2.2), (16, some 27, .agg #[.int .i64 x5_3.f0, .string x5_8.f1, .slice p5_13.2.2.1 x5_13.f2.length p5_13.2.2.2]), (3, some 14, .pointer (some ⟨p5_3.1, p5_3.2.1 + s1.2.toNat * 3, none⟩)), (8, some 19, .pointer (some ⟨p5_8.1, p5_8.2.1 + s1.2.toNat * 3, none⟩)), (13, some 24, .pointer (some ⟨p5_13.1, p5_13.2.1 + s1.2.toNat * 3, none⟩))] ([0, 1, 2, 4, 5, 6, 7, 9, 10, 11, 12, 14, 15, 16] ++ [3, 8, 13]) (by kernel_rfl) ?_
   refine D.mid (cs := [17]) [0, 1, 2, 4, 5, 6, 7, 9, 10, 11, 12, 14, 15, 16] [3, 8, 13] [(2, 0), (1, 1), (0, 2)] [p5_3.1, p5_3.2.1 + s1.2.toNat * 3, p5_8.1, p5_8.2.1 + s1.2.toNat * 3 + 1, p5_13.1, p5_13.2.1 + s1.2.toNat * 3 + 2] (by kernel_rfl) (by kernel_rfl) (⟨QuAt.mk (v := .pointer (some ⟨p5_3.1, p5_3.2.1 + s1.2.toNat * 3, none⟩)) (some 14) (by kernel_rfl) (by kernel_rfl) (Qu.idx (t := 37) (x := .tmp 12) (y := .tmp 13) (c := h0.2) (kk := .i64) (sz := 3) (by kernel_rfl) (by kernel_rfl) (by kernel_rfl) (by kernel_rfl) hx5_3a (idx_lt hx5_3) hp5_3A), QuAt.mk (v := .pointer (some ⟨p5_8.1, p5_8.2.1 + s1.2.toNat * 3, none⟩)) (some 19) (by kernel_rfl) (by kernel_rfl) (Qu.idx (t := 37) (x := .tmp 17) (y := .tmp 18) (c := h0.2) (kk := .i64) (sz := 3) (by kernel_rfl) (by kernel_rfl) (by kernel_rfl) (by kernel_rfl) hx5_8a (idx_lt hx5_8) hp5_8A), QuAt.mk (v := .pointer (some ⟨p5_13.1, p5_13.2.1 + s1.2.toNat * 3, none⟩)) (some 24) (by kernel_rfl) (by kernel_rfl) (Qu.idx (t := 37) (x := .tmp 22) (y := .tmp 23) (c := h0.2) (kk := .i64) (sz := 3) (by kernel_rfl) (by kernel_rfl) (by kernel_rfl) (by kernel_rfl) hx5_13a (idx_lt hx5_13) hp5_13A), trivial⟩) (by kernel_rfl) ⟨?_, trivial⟩
   refine EvStep.mk (some 28) (new := fun p5_17 => []) ([0, 1, 2, 4, 5, 6, 7, 9, 10, 11, 12, 14, 15] ++ [3, 8, 13]) (by kernel_rfl) (Ev.lit (t := 40) (len := 1) (parts := #[(0, .tmp 27)]) (ps := [(0, .agg #[.int .i64 x5_3.f0, .string x5_8.f1, .slice p5_13.2.2.1 x5_13.f2.length p5_13.2.2.2])]) (cs := [.int .i64 x5_3.f0, .string x5_8.f1, .slice p5_13.2.2.1 x5_13.f2.length p5_13.2.2.2]) (e := 91) kd91 ([(⟨x5_3.f0, x5_8.f1, x5_13.f2⟩ : S91)] : List S91) (by kernel_rfl) (by kernel_rfl) (by kernel_rfl) (by kernel_rfl) (by kernel_rfl) (by decide) (fun w' hφ => (Els.cons (c := [.int .i64 x5_3.f0, .string x5_8.f1, .slice p5_13.2.2.1 x5_13.f2.length p5_13.2.2.2]) (⟨p5_13.2.2, rfl, hφ _ (List.mem_of_getElem? (i := 0) rfl)⟩) (Els.nil _ _ _)))) (fun p5_17 => by kernel_rfl) (fun p5_17 => ?_)
   refine D.mid (cs := [18]) [0, 1, 2, 4, 5, 6, 7, 9, 10, 11, 12, 14, 15] [3, 8, 13] [(2, 0), (1, 1), (0, 2)] [p5_3.1, p5_3.2.1 + s1.2.toNat * 3, p5_8.1, p5_8.2.1 + s1.2.toNat * 3 + 1, p5_13.1, p5_13.2.1 + s1.2.toNat * 3 + 2] (by kernel_rfl) (by kernel_rfl) (⟨QuAt.mk (v := .pointer (some ⟨p5_3.1, p5_3.2.1 + s1.2.toNat * 3, none⟩)) (some 14) (by kernel_rfl) (by kernel_rfl) (Qu.idx (t := 37) (x := .tmp 12) (y := .tmp 13) (c := h0.2) (kk := .i64) (sz := 3) (by kernel_rfl) (by kernel_rfl) (by kernel_rfl) (by kernel_rfl) hx5_3a (idx_lt hx5_3) hp5_3A), QuAt.mk (v := .pointer (some ⟨p5_8.1, p5_8.2.1 + s1.2.toNat * 3, none⟩)) (some 19) (by kernel_rfl) (by kernel_rfl) (Qu.idx (t := 37) (x := .tmp 17) (y := .tmp 18) (c := h0.2) (kk := .i64) (sz := 3) (by kernel_rfl) (by kernel_rfl) (by kernel_rfl) (by kernel_rfl) hx5_8a (idx_lt hx5_8) hp5_8A), QuAt.mk (v := .pointer (some ⟨p5_13.1, p5_13.2.1 + s1.2.toNat * 3, none⟩)) (some 24) (by kernel_rfl) (by kernel_rfl) (Qu.idx (t := 37) (x := .tmp 22) (y := .tmp 23) (c := h0.2) (kk := .i64) (sz := 3) (by kernel_rfl) (by kernel_rfl) (by kernel_rfl) (by kernel_rfl) hx5_13a (idx_lt hx5_13) hp5_13A), trivial⟩) (by kernel_rfl) ⟨?_, trivial⟩
   refine EvStep.mk (some 29) (new := fun p5_18 => [(19, some 3, .slice p5_18.1 (s1.1 ++ ([(⟨x5_3.f0, x5_8.f1, x5_13.f2⟩ : S91)] : List S91)).length p5_18.2)]) ([1, 2, 4, 5, 6, 7, 9, 10, 11, 12, 14, 15, 19] ++ [3, 8, 13]) (by kernel_rfl) (Ev.appLit (x := .tmp 11) (y := .tmp 28) (t := 40) (bytes := 48) (by kernel_rfl) (by kernel_rfl) (by kernel_rfl) (by kernel_rfl) (by kernel_rfl) (by decide) hy5_18a) (fun p5_18 => by kernel_rfl) (fun p5_18 => ?_)
   refine D.fin (fr' := [(0, .slice h0.1 a0.length h0.2), (3, .slice p5_18.1 (s1.1 ++ ([(⟨x5_3.f0, x5_8.f1, x5_13.f2⟩ : S91)] : List S91)).length p5_18.2), (4, .int .i64 s1.2)]) [1, 2, 4, 5, 6, 7, 9, 10, 11, 12, 14, 15, 19] [3, 8, 13] [(2, 0), (1, 1), (0, 2)] [p5_3.1, p5_3.2.1 + s1.2.toNat * 3, p5_8.1, p5_8.2.1 + s1.2.toNat * 3 + 1, p5_13.1, p5_13.2.1 + s1.2.toNat * 3 + 2] [0, 3, 4] (by kernel_rfl) (by kernel_rfl) (⟨QuAt.mk (v := .pointer (some ⟨p5_3.1, p5_3.2.1 + s1.2.toNat * 3, none⟩)) (some 14) (by kernel_rfl) (by kernel_rfl) (Qu.idx (t := 37) (x := .tmp 12) (y := .tmp 13) (c := h0.2) (kk := .i64) (sz := 3) (by kernel_rfl) (by kernel_rfl) (by kernel_rfl) (by kernel_rfl) hx5_3a (idx_lt hx5_3) hp5_3A), QuAt.mk (v := .pointer (some ⟨p5_8.1, p5_8.2.1 + s1.2.toNat * 3, none⟩)) (some 19) (by kernel_rfl) (by kernel_rfl) (Qu.idx (t := 37) (x := .tmp 17) (y := .tmp 18) (c := h0.2) (kk := .i64) (sz := 3) (by kernel_rfl) (by kernel_rfl) (by kernel_rfl) (by kernel_rfl) hx5_8a (idx_lt hx5_8) hp5_8A), QuAt.mk (v := .pointer (some ⟨p5_13.1, p5_13.2.1 + s1.2.toNat * 3, none⟩)) (some 24) (by kernel_rfl) (by kernel_rfl) (Qu.idx (t := 37) (x := .tmp 22) (y := .tmp 23) (c := h0.2) (kk := .i64) (sz := 3) (by kernel_rfl) (by kernel_rfl) (by kernel_rfl) (by kernel_rfl) hx5_13a (idx_lt hx5_13) hp5_13A), trivial⟩) (by kernel_rfl) ?_
   refine J.out ?_
   refine J.region (by kernel_rfl) ?_
   refine O.pure 3 [] [0, 3, 4] [] (fr' := [(0, .slice h0.1 a0.length h0.2), (3, .slice p5_18.1 (s1.1 ++ ([(⟨x5_3.f0, x5_8.f1, x5_13.f2⟩ : S91)] : List S91)).length p5_18.2), (4, .int .i64 (IntKind.wrap .i64 (s1.2 + 1)))]) (bx' := []) (by kernel_rfl) ?_
   refine O.nil (by kernel_rfl) ?_
   exact J.conv2 [0, 3, 4] [3] [] [0] (by kernel_rfl) (by kernel_rfl) (by kernel_rfl) (by kernel_rfl) (by decide) (ih1 ((s1.1 ++ ([(⟨x5_3.f0, x5_8.f1, x5_13.f2⟩ : S91)] : List S91)), (IntKind.wrap .i64 (s1.2 + 1))) p5_18 H)
  ·refine J.condF (x := .tmp 8) (t := (decide (s1.2 < (a0.length : Int)))) (by kernel_rfl) (by kernel_rfl) hc4 ?_
   refine J.exit (id := 0) (by kernel_rfl) rfl ?_
   refine J.seq (by kernel_rfl) ?_
   refine J.region (by kernel_rfl) ?_
   refine O.pure 2 [] [2] [] (fr' := [(2, .slice g1.1 s1.1.length g1.2)]) (bx' := []) (by kernel_rfl) ?_
   refine O.nil (by kernel_rfl) ?_
   obtain rfl := Option.some.inj H
   exact J.doneS [] [] [] [] [0] g1 (vs := [.slice g1.1 s1.1.length g1.2]) (by kernel_rfl) (by kernel_rfl) (by kernel_rfl) (by kernel_rfl) (by kernel_rfl) (by decide)
 ·refine J.nilrow kd91 91 ?_
  exact J.conv2 [0, 3, 4] [0] [] [0] (by kernel_rfl) (by kernel_rfl) (by kernel_rfl) (by kernel_rfl) (by decide) h_
end Go.Proofs.Ytkcpbehgjbionaa.G
