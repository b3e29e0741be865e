/- Functions of the program as plain Lean, with their contracts (part 1); printed by a program of this session. -/
import Derived.Test.YtdbeannfjjbegaaG0
set_option linter.unusedVariables false
set_option linter.unusedSimpArgs false
namespace Go.Proofs.Ytdbeannfjjbegaa.G
open Go Go.RowKit Go.Hw
/-! ### haywain/haywainref05.Sort: function 15 -/
def haywainref05_Sort.l157 (K : Nat) : Nat → ((List S40) × Int) → Option (List S40)
  | 0, _ => none
  | k + 1, s157 => cond (decide (s157.2 > 0)) ((idxO s157.1 (IntKind.wrap .i64 (s157.2 - 1))).bind fun x9_3 => (idxO s157.1 s157.2).bind fun x9_7 => cond (decide (x9_3.f0 < x9_7.f0)) (some (s157.1)) (cond (x9_3.f0 == x9_7.f0) (cond (decide (x9_3.f1 ≤ x9_7.f1)) (some (s157.1)) ((idxO s157.1 (IntKind.wrap .i64 (s157.2 - 1))).bind fun x11_4 => (idxO (s157.1.set ((IntKind.wrap .i64 (s157.2 - 1)).toNat) x9_7) s157.2).bind fun x12_3 => haywainref05_Sort.l157 K k (((s157.1.set ((IntKind.wrap .i64 (s157.2 - 1)).toNat) x9_7).set s157.2.toNat x9_3), (IntKind.wrap .i64 (s157.2 - 1))))) ((idxO s157.1 (IntKind.wrap .i64 (s157.2 - 1))).bind fun x11_4 => (idxO (s157.1.set ((IntKind.wrap .i64 (s157.2 - 1)).toNat) x9_7) s157.2).bind fun x12_3 => haywainref05_Sort.l157 K k (((s157.1.set ((IntKind.wrap .i64 (s157.2 - 1)).toNat) x9_7).set s157.2.toNat x9_3), (IntKind.wrap .i64 (s157.2 - 1)))))) (some (s157.1))
def haywainref05_Sort.l1 (K : Nat) (a0 : List S40) : Nat → ((List S40) × Int) → Option (List S40)
  | 0, _ => none
  | k + 1, s1 => cond (decide (s1.2 < (a0.length : Int))) (((idxO a0 s1.2).bind fun x5_3 => (appO 16 s1.1 ([x5_3] : List S40)).bind fun y5_6 => (haywainref05_Sort.l157 K K ((s1.1 ++ ([x5_3] : List S40)), (IntKind.wrap .i64 (((s1.1 ++ ([x5_3] : List S40)).length : Int) - 1))) : Option (List S40)).bind fun o143 : (List S40) => some (o143) : Option (List S40)).bind fun o115 : (List S40) => haywainref05_Sort.l1 K a0 k (o115, (IntKind.wrap .i64 (s1.2 + 1)))) (some (s1.1))
def haywainref05_Sort.f (K : Nat) (a0 : List S40) : Option (List S40) := haywainref05_Sort.l1 K a0 K (([] : List S40), 0)
set_option maxRecDepth 100000 in
set_option maxHeartbeats 1000000 in
theorem haywainref05_Sort.con (K : Nat) (a0 : List S40) (h0 : Hd) (r : (List S40)) (X : Nat → Nat → Prop) (w : World) (hS : St X w [] [] [] [] [Rd kd40 h0.1 h0.2 a0] w) (H : haywainref05_Sort.f K a0 = some r) :
    Cn Try.prog 15 [.slice h0.1 a0.length h0.2] X w [] (fun i : Hd => .slice i.1 r.length i.2) (fun i => []) (fun i => [mkRow kd40 40 (.slice i.1 r.length i.2) r]) (fun i => []) := by
  refine Cn.of Try.func15 (by kernel_rfl) hS ?_
  unfold haywainref05_Sort.f at H
  refine J.seq (by kernel_rfl) ?_
  refine J.region (by kernel_rfl) ?_
  refine O.pure 1 [] [0] [] (fr' := [(0, .slice h0.1 a0.length h0.2)]) (bx' := []) (by kernel_rfl) ?_
  refine O.nil (by kernel_rfl) ?_
  refine J.seq (by kernel_rfl) ?_
  refine J.region (by kernel_rfl) ?_
  refine O.pure 1 [] [0, 3] [] (fr' := [(0, .slice h0.1 a0.length h0.2), (3, .slice none 0 0)]) (bx' := []) (by kernel_rfl) ?_
  refine O.nil (by kernel_rfl) ?_
  refine J.seq (by kernel_rfl) ?_
  refine J.seq (by kernel_rfl) ?_
  refine J.region (by kernel_rfl) ?_
  refine O.pure 1 [] [0, 3, 4] [] (fr' := [(0, .slice h0.1 a0.length h0.2), (3, .slice none 0 0), (4, .int .i64 0)]) (bx' := []) (by kernel_rfl) ?_
  refine O.nil (by kernel_rfl) ?_
  refine J.block (id := 0) (by kernel_rfl) ?_
  refine J.loopI (σ := (List S40) × Int) (γ := Hd) (f := fun m_ s_ => haywainref05_Sort.l1 K a0 m_ s_) (fun s1 g1 => [(0, .slice h0.1 a0.length h0.2), (3, .slice g1.1 s1.1.length g1.2), (4, .int .i64 s1.2)]) (fun s1 g1 => St X w [] [] [mkRow kd40 40 (.slice g1.1 s1.1.length g1.2) s1.1] [] [Rd kd40 h0.1 h0.2 a0]) K (([] : List S40), 0) (none, 0) (by kernel_rfl) H (fun _ => rfl) (fun m_ s1 H ih1 g1 => ?_) (fun h_ => ?_)
  · unfold haywainref05_Sort.l1 at H
    refine J.seq (by kernel_rfl) ?_
    refine J.seq (by kernel_rfl) ?_
    refine J.region (by kernel_rfl) ?_
    refine O.pure 4 [] [0, 3, 4, 11] [] (fr' := [(0, .slice h0.1 a0.length h0.2), (3, .slice g1.1 s1.1.length g1.2), (4, .int .i64 s1.2), (11, .bool (decide (s1.2 < (a0.length : Int))))]) (bx' := []) (by kernel_rfl) ?_
    refine O.nil (by kernel_rfl) ?_
    rcases condE H with ⟨hc114, H⟩ | ⟨hc114, H⟩
    · refine J.condT (x := .tmp 11) (t := (decide (s1.2 < (a0.length : Int)))) (by kernel_rfl) (by kernel_rfl) hc114 ?_
      refine J.skip (by kernel_rfl) ?_
      refine J.seq (by kernel_rfl) ?_
      refine J.join (α := (List S40)) (γ := Hd) (fun o115 q115 => [(0, .slice h0.1 a0.length h0.2), (3, .slice q115.1 o115.length q115.2), (4, .int .i64 s1.2)]) (fun o115 q115 => St X w [] [] [mkRow kd40 40 (.slice q115.1 o115.length q115.2) o115] [] [Rd kd40 h0.1 h0.2 a0]) H (fun o115 q115 H => ?_) (fun o115 H hj115 => ?_)
      · refine J.region (by kernel_rfl) ?_
        refine O.pure 3 [] [0, 3, 4] [] (fr' := [(0, .slice h0.1 a0.length h0.2), (3, .slice q115.1 o115.length q115.2), (4, .int .i64 (IntKind.wrap .i64 (s1.2 + 1)))]) (bx' := []) (by kernel_rfl) ?_
        refine O.nil (by kernel_rfl) ?_
        exact J.conv2 [0, 3, 4] [0] [] [0] (by kernel_rfl) (by kernel_rfl) (by kernel_rfl) (by kernel_rfl) (by decide) (ih1 (o115, (IntKind.wrap .i64 (s1.2 + 1))) q115 H)
      · refine J.block (id := 1) (by kernel_rfl) ?_
        refine J.seq (by kernel_rfl) ?_
        obtain ⟨x5_3, hx5_3, H⟩ := bindE H
        obtain ⟨hx5_3a, hx5_3⟩ := idxE hx5_3
        obtain ⟨y5_6, hy5_6, H⟩ := bindE H
        have hy5_6a := (appE hy5_6).1
        refine J.region (by kernel_rfl) ?_
        refine O.pure 3 [] [0, 3, 4, 14, 15, 16] [] (fr' := [(0, .slice h0.1 a0.length h0.2), (3, .slice g1.1 s1.1.length g1.2), (4, .int .i64 s1.2), (14, .slice g1.1 s1.1.length g1.2), (15, .slice h0.1 a0.length h0.2), (16, .int .i64 s1.2)]) (bx' := []) (by kernel_rfl) ?_
        refine O.open (d := kd40) (h := h0) (i := s1.2) 0 rfl hx5_3 (op40 _) (fun p5_3 hp5_3A => ?_)
        refine O.q (v := .pointer (some ⟨p5_3.1, p5_3.2.1 + s1.2.toNat * 2, none⟩)) (some 17) (Qu.idx (t := 22) (x := .tmp 15) (y := .tmp 16) (c := h0.2) (kk := .i64) (sz := 2) (by kernel_rfl) (by kernel_rfl) (by kernel_rfl) (by kernel_rfl) hx5_3a (idx_lt hx5_3) hp5_3A) (by kernel_rfl) ?_
        refine O.pure 1 [(0, 0)] [0, 3, 4, 14, 18] [p5_3.1, p5_3.2.1 + s1.2.toNat * 2] (fr' := [(0, .slice h0.1 a0.length h0.2), (3, .slice g1.1 s1.1.length g1.2), (4, .int .i64 s1.2), (14, .slice g1.1 s1.1.length g1.2), (18, .agg #[.int .i64 x5_3.f0, .int .i64 x5_3.f1])]) (bx' := []) (by kernel_rfl) ?_
        refine O.e (some 19) (Ev.lit (t := 22) (len := 1) (parts := #[(0, .tmp 18)]) (ps := [(0, .agg #[.int .i64 x5_3.f0, .int .i64 x5_3.f1])]) (cs := [.int .i64 x5_3.f0, .int .i64 x5_3.f1]) (e := 40) kd40 ([x5_3] : List S40) (by kernel_rfl) (by kernel_rfl) (by kernel_rfl) (by kernel_rfl) (by kernel_rfl) (by decide) (fun w' hφ => (Els.cons (c := [.int .i64 x5_3.f0, .int .i64 x5_3.f1]) (rfl) (Els.nil _ _ _)))) (by kernel_rfl) (fun p5_5 => ?_)
        refine O.e (some 20) (Ev.appLit (x := .tmp 14) (y := .tmp 19) (t := 22) (bytes := 16) (by kernel_rfl) (by kernel_rfl) (by kernel_rfl) (by kernel_rfl) (by kernel_rfl) (by decide) hy5_6a) (by kernel_rfl) (fun p5_6 => ?_)
        refine O.pure 1 [] [0, 3, 4] [] (fr' := [(0, .slice h0.1 a0.length h0.2), (3, .slice p5_6.1 (s1.1 ++ ([x5_3] : List S40)).length p5_6.2), (4, .int .i64 s1.2)]) (bx' := []) (by kernel_rfl) ?_
        refine O.nil (by kernel_rfl) ?_
        refine J.seq (by kernel_rfl) ?_
        refine J.region (by kernel_rfl) ?_
        refine O.pure 4 [] [0, 3, 4, 5] [] (fr' := [(0, .slice h0.1 a0.length h0.2), (3, .slice p5_6.1 (s1.1 ++ ([x5_3] : List S40)).length p5_6.2), (4, .int .i64 s1.2), (5, .int .i64 (IntKind.wrap .i64 (((s1.1 ++ ([x5_3] : List S40)).length : Int) - 1)))]) (bx' := []) (by kernel_rfl) ?_
        refine O.nil (by kernel_rfl) ?_
        refine J.join (α := (List S40)) (γ := Hd) (fun o143 q143 => [(0, .slice h0.1 a0.length h0.2), (3, .slice q143.1 o143.length q143.2), (4, .int .i64 s1.2)]) (fun o143 q143 => St X w [] [] [mkRow kd40 40 (.slice q143.1 o143.length q143.2) o143] [] [Rd kd40 h0.1 h0.2 a0]) H (fun o143 q143 H => ?_) (fun o143 H hj143 => ?_)
        · refine J.out ?_
          obtain rfl := Option.some.inj H
          exact J.conv2 [0, 3, 4] [0] [] [0] (by kernel_rfl) (by kernel_rfl) (by kernel_rfl) (by kernel_rfl) (by decide) (hj115 q143)
        · refine J.block (id := 2) (by kernel_rfl) ?_
          refine J.loopI (σ := (List S40) × Int) (γ := Hd) (f := fun m_ s_ => haywainref05_Sort.l157 K m_ s_) (fun s157 g157 => [(0, .slice h0.1 a0.length h0.2), (3, .slice g157.1 s157.1.length g157.2), (4, .int .i64 s1.2), (5, .int .i64 s157.2)]) (fun s157 g157 => St X w [] [] [mkRow kd40 40 (.slice g157.1 s157.1.length g157.2) s157.1] [] [Rd kd40 h0.1 h0.2 a0]) K ((s1.1 ++ ([x5_3] : List S40)), (IntKind.wrap .i64 (((s1.1 ++ ([x5_3] : List S40)).length : Int) - 1))) p5_6 (by kernel_rfl) H (fun _ => rfl) (fun m_ s157 H ih157 g157 => ?_) (fun h_ => ?_)
          · unfold haywainref05_Sort.l157 at H
            refine J.seq (by kernel_rfl) ?_
            refine J.seq (by kernel_rfl) ?_
            refine J.region (by kernel_rfl) ?_
            refine O.pure 2 [] [0, 3, 4, 5, 25] [] (fr' := [(0, .slice h0.1 a0.length h0.2), (3, .slice g157.1 s157.1.length g157.2), (4, .int .i64 s1.2), (5, .int .i64 s157.2), (25, .bool (decide (s157.2 > 0)))]) (bx' := []) (by kernel_rfl) ?_
            refine O.nil (by kernel_rfl) ?_
            rcases condE H with ⟨hc166, H⟩ | ⟨hc166, H⟩
            · refine J.condT (x := .tmp 25) (t := (decide (s157.2 > 0))) (by kernel_rfl) (by kernel_rfl) hc166 ?_
              refine J.skip (by kernel_rfl) ?_
              refine J.seq (by kernel_rfl) ?_
              refine J.block (id := 3) (by kernel_rfl) ?_
              refine J.seq (by kernel_rfl) ?_
              obtain ⟨x9_3, hx9_3, H⟩ := bindE H
              obtain ⟨hx9_3a, hx9_3⟩ := idxE hx9_3
              obtain ⟨x9_7, hx9_7, H⟩ := bindE H
              obtain ⟨hx9_7a, hx9_7⟩ := idxE hx9_7
              refine J.mono (fun w hS => hS.pk) ?_
              refine J.peek (d := kd40) (hh := g157) (m := s157.1.length) (i := (IntKind.wrap .i64 (s157.2 - 1))) (by simpa only [List.length_set] using hx9_3) (op40 _) (fun p9_3 hp9_3A => ?_)
              refine J.peek (d := kd40) (hh := g157) (m := s157.1.length) (i := s157.2) (by simpa only [List.length_set] using hx9_7) (op40 _) (fun p9_7 hp9_7A => ?_)
              refine J.cutAt (γ := Nat × Nat) (fun q_ => [(0, .slice h0.1 a0.length h0.2), (3, .slice g157.1 s157.1.length g157.2), (4, .int .i64 s1.2), (5, .int .i64 s157.2), (6, .pointer (some ⟨q_.1, 0, none⟩)), (7, .pointer (some ⟨q_.2, 0, none⟩))]) (fun q_ => St X w [] [⟨q_.2, [.int .i64 x9_7.f0, .int .i64 x9_7.f1], 40⟩, ⟨q_.1, [.int .i64 x9_3.f0, .int .i64 x9_3.f1], 40⟩] [pkRow kd40 40 (.slice g157.1 s157.1.length g157.2) s157.1 [(s157.2.toNat, [.int .i64 x9_7.f0, .int .i64 x9_7.f1]), ((IntKind.wrap .i64 (s157.2 - 1)).toNat, [.int .i64 x9_3.f0, .int .i64 x9_3.f1])]] [] [Rd kd40 h0.1 h0.2 a0]) (fun q_ => ?_) (fun hk_ => ?_)
              · obtain ⟨p9_9, p9_10⟩ := q_
                refine J.mono (fun w hS => hS.unpk) ?_
                refine J.seq (by kernel_rfl) ?_
                refine J.seq (by kernel_rfl) ?_
                rcases condE H with ⟨hc167, H⟩ | ⟨hc167, H⟩
                · refine J.region (by kernel_rfl) ?_
                  refine O.pure 4 [(1, 0), (0, 0)] [0, 3, 4, 5, 6, 7, 38, 40] [p9_9, 0, p9_10, 0] (fr' := [(0, .slice h0.1 a0.length h0.2), (3, .slice g157.1 s157.1.length g157.2), (4, .int .i64 s1.2), (5, .int .i64 s157.2), (6, .pointer (some ⟨p9_9, 0, none⟩)), (7, .pointer (some ⟨p9_10, 0, none⟩)), (38, .int .i64 x9_3.f0), (40, .int .i64 x9_7.f0)]) (bx' := [⟨p9_10, [.int .i64 x9_7.f0, .int .i64 x9_7.f1], 40⟩, ⟨p9_9, [.int .i64 x9_3.f0, .int .i64 x9_3.f1], 40⟩]) (by kernel_rfl) ?_
                  refine O.q (v := .bool true) (some 41) (Qu.eqv (u := .bool (decide (x9_3.f0 < x9_7.f0))) (v := .bool true) (0, 0) [] (by kernel_rfl) (congrArg Value.bool hc167)) (by kernel_rfl) ?_
                  refine O.pure 14 [] [0, 3, 4, 5, 6, 7, 43, 44, 45, 46, 47, 48, 49, 50, 51, 52, 53, 54, 55] [] (fr' := [(0, .slice h0.1 a0.length h0.2), (3, .slice g157.1 s157.1.length g157.2), (4, .int .i64 s1.2), (5, .int .i64 s157.2), (6, .pointer (some ⟨p9_9, 0, none⟩)), (7, .pointer (some ⟨p9_10, 0, none⟩)), (43, undef), (44, undef), (45, undef), (46, undef), (47, undef), (48, undef), (49, undef), (50, undef), (51, undef), (52, undef), (53, undef), (54, undef), (55, .bool true)]) (bx' := [⟨p9_10, [.int .i64 x9_7.f0, .int .i64 x9_7.f1], 40⟩, ⟨p9_9, [.int .i64 x9_3.f0, .int .i64 x9_3.f1], 40⟩]) (by kernel_rfl) ?_
                  refine O.nil (by kernel_rfl) ?_
                  refine J.cond (o := .tmp 55) true (by kernel_rfl) (by kernel_rfl) ?_
                  refine J.exit (id := 2) (by kernel_rfl) rfl ?_
                  obtain rfl := Option.some.inj H
                  exact J.conv2 [0, 3, 4] [0] [] [0] (by kernel_rfl) (by kernel_rfl) (by kernel_rfl) (by kernel_rfl) (by decide) (hj143 g157)
                · rcases condE H with ⟨hc168, H⟩ | ⟨hc168, H⟩
                  · refine J.region (by kernel_rfl) ?_
                    refine O.pure 4 [(1, 0), (0, 0)] [0, 3, 4, 5, 6, 7, 38, 40] [p9_9, 0, p9_10, 0] (fr' := [(0, .slice h0.1 a0.length h0.2), (3, .slice g157.1 s157.1.length g157.2), (4, .int .i64 s1.2), (5, .int .i64 s157.2), (6, .pointer (some ⟨p9_9, 0, none⟩)), (7, .pointer (some ⟨p9_10, 0, none⟩)), (38, .int .i64 x9_3.f0), (40, .int .i64 x9_7.f0)]) (bx' := [⟨p9_10, [.int .i64 x9_7.f0, .int .i64 x9_7.f1], 40⟩, ⟨p9_9, [.int .i64 x9_3.f0, .int .i64 x9_3.f1], 40⟩]) (by kernel_rfl) ?_
                    refine O.q (v := .bool false) (some 41) (Qu.eqv (u := .bool (decide (x9_3.f0 < x9_7.f0))) (v := .bool false) (0, 0) [] (by kernel_rfl) (congrArg Value.bool hc167)) (by kernel_rfl) ?_
                    refine O.pure 5 [(1, 0), (0, 0)] [0, 3, 4, 5, 6, 7, 42, 43, 44, 45, 46] [p9_9, 0, p9_10, 0] (fr' := [(0, .slice h0.1 a0.length h0.2), (3, .slice g157.1 s157.1.length g157.2), (4, .int .i64 s1.2), (5, .int .i64 s157.2), (6, .pointer (some ⟨p9_9, 0, none⟩)), (7, .pointer (some ⟨p9_10, 0, none⟩)), (42, .bool false), (43, .pointer (some ⟨p9_9, 0, none⟩)), (44, .int .i64 x9_3.f0), (45, .pointer (some ⟨p9_10, 0, none⟩)), (46, .int .i64 x9_7.f0)]) (bx' := [⟨p9_10, [.int .i64 x9_7.f0, .int .i64 x9_7.f1], 40⟩, ⟨p9_9, [.int .i64 x9_3.f0, .int .i64 x9_3.f1], 40⟩]) (by kernel_rfl) ?_
                    refine O.q (v := .bool true) (some 47) (Qu.eqv (u := .bool (x9_3.f0 == x9_7.f0)) (v := .bool true) (0, 0) [] (by kernel_rfl) (congrArg Value.bool hc168)) (by kernel_rfl) ?_
                    refine O.pure 8 [(1, 1), (0, 1)] [0, 3, 4, 5, 6, 7, 43, 44, 45, 46, 47, 48, 49, 50, 51, 52, 53, 54, 55] [p9_9, 1, p9_10, 1] (fr' := [(0, .slice h0.1 a0.length h0.2), (3, .slice g157.1 s157.1.length g157.2), (4, .int .i64 s1.2), (5, .int .i64 s157.2), (6, .pointer (some ⟨p9_9, 0, none⟩)), (7, .pointer (some ⟨p9_10, 0, none⟩)), (43, .pointer (some ⟨p9_9, 0, none⟩)), (44, .int .i64 x9_3.f0), (45, .pointer (some ⟨p9_10, 0, none⟩)), (46, .int .i64 x9_7.f0), (47, .bool true), (48, .bool true), (49, .pointer (some ⟨p9_9, 1, none⟩)), (50, .int .i64 x9_3.f1), (51, .pointer (some ⟨p9_10, 1, none⟩)), (52, .int .i64 x9_7.f1), (53, .bool (decide (x9_3.f1 ≤ x9_7.f1))), (54, .bool (decide (x9_3.f1 ≤ x9_7.f1))), (55, .bool (decide (x9_3.f1 ≤ x9_7.f1)))]) (bx' := [⟨p9_10, [.int .i64 x9_7.f0, .int .i64 x9_7.f1], 40⟩, ⟨p9_9, [.int .i64 x9_3.f0, .int .i64 x9_3.f1], 40⟩]) (by kernel_rfl) ?_
                    refine O.nil (by kernel_rfl) ?_
                    rcases condE H with ⟨hc169, H⟩ | ⟨hc169, H⟩
                    · refine J.condT (x := .tmp 55) (t := (decide (x9_3.f1 ≤ x9_7.f1))) (by kernel_rfl) (by kernel_rfl) hc169 ?_
                      refine J.exit (id := 2) (by kernel_rfl) rfl ?_
                      obtain rfl := Option.some.inj H
                      exact J.conv2 [0, 3, 4] [0] [] [0] (by kernel_rfl) (by kernel_rfl) (by kernel_rfl) (by kernel_rfl) (by decide) (hj143 g157)
                    · refine J.condF (x := .tmp 55) (t := (decide (x9_3.f1 ≤ x9_7.f1))) (by kernel_rfl) (by kernel_rfl) hc169 ?_
                      refine J.skip (by kernel_rfl) ?_
                      refine J.seq (by kernel_rfl) ?_
                      obtain ⟨x11_4, hx11_4, H⟩ := bindE H
                      obtain ⟨hx11_4a, hx11_4⟩ := idxE hx11_4
                      refine J.region (by kernel_rfl) ?_
                      refine O.pure 4 [(0, 0)] [0, 3, 4, 5, 6, 43, 44, 45, 46, 47, 48, 49, 50, 51, 52, 53, 54, 56, 58, 59] [p9_10, 0] (fr' := [(0, .slice h0.1 a0.length h0.2), (3, .slice g157.1 s157.1.length g157.2), (4, .int .i64 s1.2), (5, .int .i64 s157.2), (6, .pointer (some ⟨p9_9, 0, none⟩)), (43, .pointer (some ⟨p9_9, 0, none⟩)), (44, .int .i64 x9_3.f0), (45, .pointer (some ⟨p9_10, 0, none⟩)), (46, .int .i64 x9_7.f0), (47, .bool true), (48, .bool true), (49, .pointer (some ⟨p9_9, 1, none⟩)), (50, .int .i64 x9_3.f1), (51, .pointer (some ⟨p9_10, 1, none⟩)), (52, .int .i64 x9_7.f1), (53, .bool (decide (x9_3.f1 ≤ x9_7.f1))), (54, .bool (decide (x9_3.f1 ≤ x9_7.f1))), (56, .slice g157.1 s157.1.length g157.2), (58, .int .i64 (IntKind.wrap .i64 (s157.2 - 1))), (59, .agg #[.int .i64 x9_7.f0, .int .i64 x9_7.f1])]) (bx' := [⟨p9_10, [.int .i64 x9_7.f0, .int .i64 x9_7.f1], 40⟩, ⟨p9_9, [.int .i64 x9_3.f0, .int .i64 x9_3.f1], 40⟩]) (by kernel_rfl) ?_
                      refine O.mono (fun w hS => hS.pk) ?_
                      refine O.peek (d := kd40) (hh := g157) (m := s157.1.length) (i := (IntKind.wrap .i64 (s157.2 - 1))) (by simpa only [List.length_set] using hx11_4) (op40 _) (fun p11_4 hp11_4A => ?_)
                      refine O.q (v := .pointer (some ⟨p11_4.1, 0 + (IntKind.wrap .i64 (s157.2 - 1)).toNat * 2, none⟩)) (some 60) (Qu.idx (t := 22) (x := .tmp 56) (y := .tmp 58) (len := s157.1.length) (c := g157.2) (kk := .i64) (sz := 2) (by kernel_rfl) (by kernel_rfl) (by kernel_rfl) (by kernel_rfl) hx11_4a (by have := idx_lt hx11_4; simpa only [List.length_set, List.length_replicate] using this) hp11_4A) (by kernel_rfl) ?_
                      refine O.e none (Ev.storeR (t := 40) (x := .tmp 60) (y := .tmp 59) (hh := g157) (m := s157.1.length) (g := p11_4.1) (i := (IntKind.wrap .i64 (s157.2 - 1)).toNat) (f := 0) (s := 2) (u := .pointer (some ⟨p11_4.1, 0 + (IntKind.wrap .i64 (s157.2 - 1)).toNat * 2, none⟩)) (z := .agg #[.int .i64 x9_7.f0, .int .i64 x9_7.f1]) (cs := []) (ncs := [.int .i64 x9_7.f0, .int .i64 x9_7.f1]) x9_7 none (by kernel_rfl) (by kernel_rfl) rfl (by kernel_rfl) hp11_4A (by have := idx_lt hx11_4; simpa only [List.length_set] using this) ⟨by kernel_rfl, by kernel_rfl, by kernel_rfl, by kernel_rfl⟩ ⟨rfl, rfl, rfl⟩ (by kernel_rfl) (fun w' hφ => rfl)) (by kernel_rfl) (fun _ => ?_)
                      refine O.nil (by kernel_rfl) ?_
                      refine J.mono (fun w hS => hS.unpk) ?_
                      refine J.renS [0, 3, 4, 5, 6, 43, 44, 45, 46, 47, 48, 49, 50, 51, 52, 53, 54] (fr1 := [(0, .slice h0.1 a0.length h0.2), (3, .slice g157.1 s157.1.length g157.2), (4, .int .i64 s1.2), (5, .int .i64 s157.2), (6, .pointer (some ⟨p9_9, 0, none⟩)), (43, .pointer (some ⟨p9_9, 0, none⟩)), (44, .int .i64 x9_3.f0), (45, .pointer (some ⟨p9_10, 0, none⟩)), (46, .int .i64 x9_7.f0), (47, .bool true), (48, .bool true), (49, .pointer (some ⟨p9_9, 1, none⟩)), (50, .int .i64 x9_3.f1), (51, .pointer (some ⟨p9_10, 1, none⟩)), (52, .int .i64 x9_7.f1), (53, .bool (decide (x9_3.f1 ≤ x9_7.f1))), (54, .bool (decide (x9_3.f1 ≤ x9_7.f1)))]) (bx1 := [⟨p9_10, [.int .i64 x9_7.f0, .int .i64 x9_7.f1], 40⟩, ⟨p9_9, [.int .i64 x9_3.f0, .int .i64 x9_3.f1], 40⟩]) (rw1 := [mkRow kd40 40 (.slice g157.1 s157.1.length g157.2) (s157.1.set ((IntKind.wrap .i64 (s157.2 - 1)).toNat) x9_7)]) (fr' := [(0, .slice h0.1 a0.length h0.2), (3, .slice g157.1 (s157.1.set ((IntKind.wrap .i64 (s157.2 - 1)).toNat) x9_7).length g157.2), (4, .int .i64 s1.2), (5, .int .i64 s157.2), (6, .pointer (some ⟨p9_9, 0, none⟩)), (43, .pointer (some ⟨p9_9, 0, none⟩)), (44, .int .i64 x9_3.f0), (45, .pointer (some ⟨p9_10, 0, none⟩)), (46, .int .i64 x9_7.f0), (47, .bool true), (48, .bool true), (49, .pointer (some ⟨p9_9, 1, none⟩)), (50, .int .i64 x9_3.f1), (51, .pointer (some ⟨p9_10, 1, none⟩)), (52, .int .i64 x9_7.f1), (53, .bool (decide (x9_3.f1 ≤ x9_7.f1))), (54, .bool (decide (x9_3.f1 ≤ x9_7.f1)))]) (bx' := [⟨p9_10, [.int .i64 x9_7.f0, .int .i64 x9_7.f1], 40⟩, ⟨p9_9, [.int .i64 x9_3.f0, .int .i64 x9_3.f1], 40⟩]) (rw' := [mkRow kd40 40 (.slice g157.1 (s157.1.set ((IntKind.wrap .i64 (s157.2 - 1)).toNat) x9_7).length g157.2) (s157.1.set ((IntKind.wrap .i64 (s157.2 - 1)).toNat) x9_7)]) (by kernel_rfl) (by kernel_rfl) (by simp only [List.length_set, List.length_replicate]) ?_
                      obtain ⟨x12_3, hx12_3, H⟩ := bindE H
                      obtain ⟨hx12_3a, hx12_3⟩ := idxE hx12_3
                      refine J.region (by kernel_rfl) ?_
                      refine O.pure 3 [(1, 0)] [0, 3, 4, 5, 43, 44, 45, 46, 47, 48, 49, 50, 51, 52, 53, 54, 61, 62, 63] [p9_9, 0] (fr' := [(0, .slice h0.1 a0.length h0.2), (3, .slice g157.1 (s157.1.set ((IntKind.wrap .i64 (s157.2 - 1)).toNat) x9_7).length g157.2), (4, .int .i64 s1.2), (5, .int .i64 s157.2), (43, .pointer (some ⟨p9_9, 0, none⟩)), (44, .int .i64 x9_3.f0), (45, .pointer (some ⟨p9_10, 0, none⟩)), (46, .int .i64 x9_7.f0), (47, .bool true), (48, .bool true), (49, .pointer (some ⟨p9_9, 1, none⟩)), (50, .int .i64 x9_3.f1), (51, .pointer (some ⟨p9_10, 1, none⟩)), (52, .int .i64 x9_7.f1), (53, .bool (decide (x9_3.f1 ≤ x9_7.f1))), (54, .bool (decide (x9_3.f1 ≤ x9_7.f1))), (61, .slice g157.1 (s157.1.set ((IntKind.wrap .i64 (s157.2 - 1)).toNat) x9_7).length g157.2), (62, .int .i64 s157.2), (63, .agg #[.int .i64 x9_3.f0, .int .i64 x9_3.f1])]) (bx' := [⟨p9_10, [.int .i64 x9_7.f0, .int .i64 x9_7.f1], 40⟩, ⟨p9_9, [.int .i64 x9_3.f0, .int .i64 x9_3.f1], 40⟩]) (by kernel_rfl) ?_
                      refine O.mono (fun w hS => hS.pk) ?_
                      refine O.peek (d := kd40) (hh := g157) (m := (s157.1.set ((IntKind.wrap .i64 (s157.2 - 1)).toNat) x9_7).length) (i := s157.2) (by simpa only [List.length_set] using hx12_3) (op40 _) (fun p12_3 hp12_3A => ?_)
                      refine O.q (v := .pointer (some ⟨p12_3.1, 0 + s157.2.toNat * 2, none⟩)) (some 64) (Qu.idx (t := 22) (x := .tmp 61) (y := .tmp 62) (len := (s157.1.set ((IntKind.wrap .i64 (s157.2 - 1)).toNat) x9_7).length) (c := g157.2) (kk := .i64) (sz := 2) (by kernel_rfl) (by kernel_rfl) (by kernel_rfl) (by kernel_rfl) hx12_3a (by have := idx_lt hx12_3; simpa only [List.length_set, List.length_replicate] using this) hp12_3A) (by kernel_rfl) ?_
                      refine O.e none (Ev.storeR (t := 40) (x := .tmp 64) (y := .tmp 63) (hh := g157) (m := (s157.1.set ((IntKind.wrap .i64 (s157.2 - 1)).toNat) x9_7).length) (g := p12_3.1) (i := s157.2.toNat) (f := 0) (s := 2) (u := .pointer (some ⟨p12_3.1, 0 + s157.2.toNat * 2, none⟩)) (z := .agg #[.int .i64 x9_3.f0, .int .i64 x9_3.f1]) (cs := []) (ncs := [.int .i64 x9_3.f0, .int .i64 x9_3.f1]) x9_3 none (by kernel_rfl) (by kernel_rfl) rfl (by kernel_rfl) hp12_3A (by have := idx_lt hx12_3; simpa only [List.length_set] using this) ⟨by kernel_rfl, by kernel_rfl, by kernel_rfl, by kernel_rfl⟩ ⟨rfl, rfl, rfl⟩ (by kernel_rfl) (fun w' hφ => rfl)) (by kernel_rfl) (fun _ => ?_)
                      refine O.nil (by kernel_rfl) ?_
                      refine J.mono (fun w hS => hS.unpk) ?_
                      refine J.renS [0, 3, 4, 5, 43, 44, 45, 46, 47, 48, 49, 50, 51, 52, 53, 54] (fr1 := [(0, .slice h0.1 a0.length h0.2), (3, .slice g157.1 (s157.1.set ((IntKind.wrap .i64 (s157.2 - 1)).toNat) x9_7).length g157.2), (4, .int .i64 s1.2), (5, .int .i64 s157.2), (43, .pointer (some ⟨p9_9, 0, none⟩)), (44, .int .i64 x9_3.f0), (45, .pointer (some ⟨p9_10, 0, none⟩)), (46, .int .i64 x9_7.f0), (47, .bool true), (48, .bool true), (49, .pointer (some ⟨p9_9, 1, none⟩)), (50, .int .i64 x9_3.f1), (51, .pointer (some ⟨p9_10, 1, none⟩)), (52, .int .i64 x9_7.f1), (53, .bool (decide (x9_3.f1 ≤ x9_7.f1))), (54, .bool (decide (x9_3.f1 ≤ x9_7.f1)))]) (bx1 := [⟨p9_10, [.int .i64 x9_7.f0, .int .i64 x9_7.f1], 40⟩, ⟨p9_9, [.int .i64 x9_3.f0, .int .i64 x9_3.f1], 40⟩]) (rw1 := [mkRow kd40 40 (.slice g157.1 ((s157.1.set ((IntKind.wrap .i64 (s157.2 - 1)).toNat) x9_7).length) g157.2) ((s157.1.set ((IntKind.wrap .i64 (s157.2 - 1)).toNat) x9_7).set s157.2.toNat x9_3)]) (fr' := [(0, .slice h0.1 a0.length h0.2), (3, .slice g157.1 ((s157.1.set ((IntKind.wrap .i64 (s157.2 - 1)).toNat) x9_7).set s157.2.toNat x9_3).length g157.2), (4, .int .i64 s1.2), (5, .int .i64 s157.2), (43, .pointer (some ⟨p9_9, 0, none⟩)), (44, .int .i64 x9_3.f0), (45, .pointer (some ⟨p9_10, 0, none⟩)), (46, .int .i64 x9_7.f0), (47, .bool true), (48, .bool true), (49, .pointer (some ⟨p9_9, 1, none⟩)), (50, .int .i64 x9_3.f1), (51, .pointer (some ⟨p9_10, 1, none⟩)), (52, .int .i64 x9_7.f1), (53, .bool (decide (x9_3.f1 ≤ x9_7.f1))), (54, .bool (decide (x9_3.f1 ≤ x9_7.f1)))]) (bx' := [⟨p9_10, [.int .i64 x9_7.f0, .int .i64 x9_7.f1], 40⟩, ⟨p9_9, [.int .i64 x9_3.f0, .int .i64 x9_3.f1], 40⟩]) (rw' := [mkRow kd40 40 (.slice g157.1 ((s157.1.set ((IntKind.wrap .i64 (s157.2 - 1)).toNat) x9_7).set s157.2.toNat x9_3).length g157.2) ((s157.1.set ((IntKind.wrap .i64 (s157.2 - 1)).toNat) x9_7).set s157.2.toNat x9_3)]) (by kernel_rfl) (by kernel_rfl) (by simp only [List.length_set, List.length_replicate]) ?_
                      refine J.out ?_
                      refine J.region (by kernel_rfl) ?_
                      refine O.pure 3 [] [0, 3, 4, 5, 43, 44, 45, 46, 47, 48, 49, 50, 51, 52, 53, 54] [] (fr' := [(0, .slice h0.1 a0.length h0.2), (3, .slice g157.1 ((s157.1.set ((IntKind.wrap .i64 (s157.2 - 1)).toNat) x9_7).set s157.2.toNat x9_3).length g157.2), (4, .int .i64 s1.2), (5, .int .i64 (IntKind.wrap .i64 (s157.2 - 1))), (43, .pointer (some ⟨p9_9, 0, none⟩)), (44, .int .i64 x9_3.f0), (45, .pointer (some ⟨p9_10, 0, none⟩)), (46, .int .i64 x9_7.f0), (47, .bool true), (48, .bool true), (49, .pointer (some ⟨p9_9, 1, none⟩)), (50, .int .i64 x9_3.f1), (51, .pointer (some ⟨p9_10, 1, none⟩)), (52, .int .i64 x9_7.f1), (53, .bool (decide (x9_3.f1 ≤ x9_7.f1))), (54, .bool (decide (x9_3.f1 ≤ x9_7.f1)))]) (bx' := [⟨p9_10, [.int .i64 x9_7.f0, .int .i64 x9_7.f1], 40⟩, ⟨p9_9, [.int .i64 x9_3.f0, .int .i64 x9_3.f1], 40⟩]) (by kernel_rfl) ?_
                      refine O.nil (by kernel_rfl) ?_
                      exact J.conv2 [0, 3, 4, 5] [0] [] [0] (by kernel_rfl) (by kernel_rfl) (by kernel_rfl) (by kernel_rfl) (by decide) (ih157 (((s157.1.set ((IntKind.wrap .i64 (s157.2 - 1)).toNat) x9_7).set s157.2.toNat x9_3), (IntKind.wrap .i64 (s157.2 - 1))) g157 H)
                  · refine J.region (by kernel_rfl) ?_
                    refine O.pure 4 [(1, 0), (0, 0)] [0, 3, 4, 5, 6, 7, 38, 40] [p9_9, 0, p9_10, 0] (fr' := [(0, .slice h0.1 a0.length h0.2), (3, .slice g157.1 s157.1.length g157.2), (4, .int .i64 s1.2), (5, .int .i64 s157.2), (6, .pointer (some ⟨p9_9, 0, none⟩)), (7, .pointer (some ⟨p9_10, 0, none⟩)), (38, .int .i64 x9_3.f0), (40, .int .i64 x9_7.f0)]) (bx' := [⟨p9_10, [.int .i64 x9_7.f0, .int .i64 x9_7.f1], 40⟩, ⟨p9_9, [.int .i64 x9_3.f0, .int .i64 x9_3.f1], 40⟩]) (by kernel_rfl) ?_
                    refine O.q (v := .bool false) (some 41) (Qu.eqv (u := .bool (decide (x9_3.f0 < x9_7.f0))) (v := .bool false) (0, 0) [] (by kernel_rfl) (congrArg Value.bool hc167)) (by kernel_rfl) ?_
                    refine O.pure 5 [(1, 0), (0, 0)] [0, 3, 4, 5, 6, 7, 42, 43, 44, 45, 46] [p9_9, 0, p9_10, 0] (fr' := [(0, .slice h0.1 a0.length h0.2), (3, .slice g157.1 s157.1.length g157.2), (4, .int .i64 s1.2), (5, .int .i64 s157.2), (6, .pointer (some ⟨p9_9, 0, none⟩)), (7, .pointer (some ⟨p9_10, 0, none⟩)), (42, .bool false), (43, .pointer (some ⟨p9_9, 0, none⟩)), (44, .int .i64 x9_3.f0), (45, .pointer (some ⟨p9_10, 0, none⟩)), (46, .int .i64 x9_7.f0)]) (bx' := [⟨p9_10, [.int .i64 x9_7.f0, .int .i64 x9_7.f1], 40⟩, ⟨p9_9, [.int .i64 x9_3.f0, .int .i64 x9_3.f1], 40⟩]) (by kernel_rfl) ?_
                    refine O.q (v := .bool false) (some 47) (Qu.eqv (u := .bool (x9_3.f0 == x9_7.f0)) (v := .bool false) (0, 0) [] (by kernel_rfl) (congrArg Value.bool hc168)) (by kernel_rfl) ?_
                    refine O.pure 8 [] [0, 3, 4, 5, 6, 7, 43, 44, 45, 46, 47, 48, 49, 50, 51, 52, 53, 54, 55] [] (fr' := [(0, .slice h0.1 a0.length h0.2), (3, .slice g157.1 s157.1.length g157.2), (4, .int .i64 s1.2), (5, .int .i64 s157.2), (6, .pointer (some ⟨p9_9, 0, none⟩)), (7, .pointer (some ⟨p9_10, 0, none⟩)), (43, .pointer (some ⟨p9_9, 0, none⟩)), (44, .int .i64 x9_3.f0), (45, .pointer (some ⟨p9_10, 0, none⟩)), (46, .int .i64 x9_7.f0), (47, .bool false), (48, .bool false), (49, undef), (50, undef), (51, undef), (52, undef), (53, undef), (54, .bool false), (55, .bool false)]) (bx' := [⟨p9_10, [.int .i64 x9_7.f0, .int .i64 x9_7.f1], 40⟩, ⟨p9_9, [.int .i64 x9_3.f0, .int .i64 x9_3.f1], 40⟩]) (by kernel_rfl) ?_
                    refine O.nil (by kernel_rfl) ?_
                    refine J.cond (o := .tmp 55) false (by kernel_rfl) (by kernel_rfl) ?_
                    refine J.skip (by kernel_rfl) ?_
                    refine J.seq (by kernel_rfl) ?_
                    obtain ⟨x11_4, hx11_4, H⟩ := bindE H
                    obtain ⟨hx11_4a, hx11_4⟩ := idxE hx11_4
                    refine J.region (by kernel_rfl) ?_
                    refine O.pure 4 [(0, 0)] [0, 3, 4, 5, 6, 43, 44, 45, 46, 47, 48, 49, 50, 51, 52, 53, 54, 56, 58, 59] [p9_10, 0] (fr' := [(0, .slice h0.1 a0.length h0.2), (3, .slice g157.1 s157.1.length g157.2), (4, .int .i64 s1.2), (5, .int .i64 s157.2), (6, .pointer (some ⟨p9_9, 0, none⟩)), (43, .pointer (some ⟨p9_9, 0, none⟩)), (44, .int .i64 x9_3.f0), (45, .pointer (some ⟨p9_10, 0, none⟩)), (46, .int .i64 x9_7.f0), (47, .bool false), (48, .bool false), (49, undef), (50, undef), (51, undef), (52, undef), (53, undef), (54, .bool false), (56, .slice g157.1 s157.1.length g157.2), (58, .int .i64 (IntKind.wrap .i64 (s157.2 - 1))), (59, .agg #[.int .i64 x9_7.f0, .int .i64 x9_7.f1])]) (bx' := [⟨p9_10, [.int .i64 x9_7.f0, .int .i64 x9_7.f1], 40⟩, ⟨p9_9, [.int .i64 x9_3.f0, .int .i64 x9_3.f1], 40⟩]) (by kernel_rfl) ?_
                    refine O.mono (fun w hS => hS.pk) ?_
                    refine O.peek (d := kd40) (hh := g157) (m := s157.1.length) (i := (IntKind.wrap .i64 (s157.2 - 1))) (by simpa only [List.length_set] using hx11_4) (op40 _) (fun p11_4 hp11_4A => ?_)
                    refine O.q (v := .pointer (some ⟨p11_4.1, 0 + (IntKind.wrap .i64 (s157.2 - 1)).toNat * 2, none⟩)) (some 60) (Qu.idx (t := 22) (x := .tmp 56) (y := .tmp 58) (len := s157.1.length) (c := g157.2) (kk := .i64) (sz := 2) (by kernel_rfl) (by kernel_rfl) (by kernel_rfl) (by kernel_rfl) hx11_4a (by have := idx_lt hx11_4; simpa only [List.length_set, List.length_replicate] using this) hp11_4A) (by kernel_rfl) ?_
                    refine O.e none (Ev.storeR (t := 40) (x := .tmp 60) (y := .tmp 59) (hh := g157) (m := s157.1.length) (g := p11_4.1) (i := (IntKind.wrap .i64 (s157.2 - 1)).toNat) (f := 0) (s := 2) (u := .pointer (some ⟨p11_4.1, 0 + (IntKind.wrap .i64 (s157.2 - 1)).toNat * 2, none⟩)) (z := .agg #[.int .i64 x9_7.f0, .int .i64 x9_7.f1]) (cs := []) (ncs := [.int .i64 x9_7.f0, .int .i64 x9_7.f1]) x9_7 none (by kernel_rfl) (by kernel_rfl) rfl (by kernel_rfl) hp11_4A (by have := idx_lt hx11_4; simpa only [List.length_set] using this) ⟨by kernel_rfl, by kernel_rfl, by kernel_rfl, by kernel_rfl⟩ ⟨rfl, rfl, rfl⟩ (by kernel_rfl) (fun w' hφ => rfl)) (by kernel_rfl) (fun _ => ?_)
                    refine O.nil (by kernel_rfl) ?_
                    refine J.mono (fun w hS => hS.unpk) ?_
                    refine J.renS [0, 3, 4, 5, 6, 43, 44, 45, 46, 47, 48, 49, 50, 51, 52, 53, 54] (fr1 := [(0, .slice h0.1 a0.length h0.2), (3, .slice g157.1 s157.1.length g157.2), (4, .int .i64 s1.2), (5, .int .i64 s157.2), (6, .pointer (some ⟨p9_9, 0, none⟩)), (43, .pointer (some ⟨p9_9, 0, none⟩)), (44, .int .i64 x9_3.f0), (45, .pointer (some ⟨p9_10, 0, none⟩)), (46, .int .i64 x9_7.f0), (47, .bool false), (48, .bool false), (49, undef), (50, undef), (51, undef), (52, undef), (53, undef), (54, .bool false)]) (bx1 := [⟨p9_10, [.int .i64 x9_7.f0, .int .i64 x9_7.f1], 40⟩, ⟨p9_9, [.int .i64 x9_3.f0, .int .i64 x9_3.f1], 40⟩]) (rw1 := [mkRow kd40 40 (.slice g157.1 s157.1.length g157.2) (s157.1.set ((IntKind.wrap .i64 (s157.2 - 1)).toNat) x9_7)]) (fr' := [(0, .slice h0.1 a0.length h0.2), (3, .slice g157.1 (s157.1.set ((IntKind.wrap .i64 (s157.2 - 1)).toNat) x9_7).length g157.2), (4, .int .i64 s1.2), (5, .int .i64 s157.2), (6, .pointer (some ⟨p9_9, 0, none⟩)), (43, .pointer (some ⟨p9_9, 0, none⟩)), (44, .int .i64 x9_3.f0), (45, .pointer (some ⟨p9_10, 0, none⟩)), (46, .int .i64 x9_7.f0), (47, .bool false), (48, .bool false), (49, undef), (50, undef), (51, undef), (52, undef), (53, undef), (54, .bool false)]) (bx' := [⟨p9_10, [.int .i64 x9_7.f0, .int .i64 x9_7.f1], 40⟩, ⟨p9_9, [.int .i64 x9_3.f0, .int .i64 x9_3.f1], 40⟩]) (rw' := [mkRow kd40 40 (.slice g157.1 (s157.1.set ((IntKind.wrap .i64 (s157.2 - 1)).toNat) x9_7).length g157.2) (s157.1.set ((IntKind.wrap .i64 (s157.2 - 1)).toNat) x9_7)]) (by kernel_rfl) (by kernel_rfl) (by simp only [List.length_set, List.length_replicate]) ?_
                    obtain ⟨x12_3, hx12_3, H⟩ := bindE H
                    obtain ⟨hx12_3a, hx12_3⟩ := idxE hx12_3
                    refine J.region (by kernel_rfl) ?_
                    refine O.pure 3 [(1, 0)] [0, 3, 4, 5, 43, 44, 45, 46, 47, 48, 49, 50, 51, 52, 53, 54, 61, 62, 63] [p9_9, 0] (fr' := [(0, .slice h0.1 a0.length h0.2), (3, .slice g157.1 (s157.1.set ((IntKind.wrap .i64 (s157.2 - 1)).toNat) x9_7).length g157.2), (4, .int .i64 s1.2), (5, .int .i64 s157.2), (43, .pointer (some ⟨p9_9, 0, none⟩)), (44, .int .i64 x9_3.f0), (45, .pointer (some ⟨p9_10, 0, none⟩)), (46, .int .i64 x9_7.f0), (47, .bool false), (48, .bool false), (49, undef), (50, undef), (51, undef), (52, undef), (53, undef), (54, .bool false), (61, .slice g157.1 (s157.1.set ((IntKind.wrap .i64 (s157.2 - 1)).toNat) x9_7).length g157.2), (62, .int .i64 s157.2), (63, .agg #[.int .i64 x9_3.f0, .int .i64 x9_3.f1])]) (bx' := [⟨p9_10, [.int .i64 x9_7.f0, .int .i64 x9_7.f1], 40⟩, ⟨p9_9, [.int .i64 x9_3.f0, .int .i64 x9_3.f1], 40⟩]) (by kernel_rfl) ?_
                    refine O.mono (fun w hS => hS.pk) ?_
                    refine O.peek (d := kd40) (hh := g157) (m := (s157.1.set ((IntKind.wrap .i64 (s157.2 - 1)).toNat) x9_7).length) (i := s157.2) (by simpa only [List.length_set] using hx12_3) (op40 _) (fun p12_3 hp12_3A => ?_)
                    refine O.q (v := .pointer (some ⟨p12_3.1, 0 + s157.2.toNat * 2, none⟩)) (some 64) (Qu.idx (t := 22) (x := .tmp 61) (y := .tmp 62) (len := (s157.1.set ((IntKind.wrap .i64 (s157.2 - 1)).toNat) x9_7).length) (c := g157.2) (kk := .i64) (sz := 2) (by kernel_rfl) (by kernel_rfl) (by kernel_rfl) (by kernel_rfl) hx12_3a (by have := idx_lt hx12_3; simpa only [List.length_set, List.length_replicate] using this) hp12_3A) (by kernel_rfl) ?_
                    refine O.e none (Ev.storeR (t := 40) (x := .tmp 64) (y := .tmp 63) (hh := g157) (m := (s157.1.set ((IntKind.wrap .i64 (s157.2 - 1)).toNat) x9_7).length) (g := p12_3.1) (i := s157.2.toNat) (f := 0) (s := 2) (u := .pointer (some ⟨p12_3.1, 0 + s157.2.toNat * 2, none⟩)) (z := .agg #[.int .i64 x9_3.f0, .int .i64 x9_3.f1]) (cs := []) (ncs := [.int .i64 x9_3.f0, .int .i64 x9_3.f1]) x9_3 none (by kernel_rfl) (by kernel_rfl) rfl (by kernel_rfl) hp12_3A (by have := idx_lt hx12_3; simpa only [List.length_set] using this) ⟨by kernel_rfl, by kernel_rfl, by kernel_rfl, by kernel_rfl⟩ ⟨rfl, rfl, rfl⟩ (by kernel_rfl) (fun w' hφ => rfl)) (by kernel_rfl) (fun _ => ?_)
                    refine O.nil (by kernel_rfl) ?_
                    refine J.mono (fun w hS => hS.unpk) ?_
                    refine J.renS [0, 3, 4, 5, 43, 44, 45, 46, 47, 48, 49, 50, 51, 52, 53, 54] (fr1 := [(0, .slice h0.1 a0.length h0.2), (3, .slice g157.1 (s157.1.set ((IntKind.wrap .i64 (s157.2 - 1)).toNat) x9_7).length g157.2), (4, .int .i64 s1.2), (5, .int .i64 s157.2), (43, .pointer (some ⟨p9_9, 0, none⟩)), (44, .int .i64 x9_3.f0), (45, .pointer (some ⟨p9_10, 0, none⟩)), (46, .int .i64 x9_7.f0), (47, .bool false), (48, .bool false), (49, undef), (50, undef), (51, undef), (52, undef), (53, undef), (54, .bool false)]) (bx1 := [⟨p9_10, [.int .i64 x9_7.f0, .int .i64 x9_7.f1], 40⟩, ⟨p9_9, [.int .i64 x9_3.f0, .int .i64 x9_3.f1], 40⟩]) (rw1 := [mkRow kd40 40 (.slice g157.1 ((s157.1.set ((IntKind.wrap .i64 (s157.2 - 1)).toNat) x9_7).length) g157.2) ((s157.1.set ((IntKind.wrap .i64 (s157.2 - 1)).toNat) x9_7).set s157.2.toNat x9_3)]) (fr' := [(0, .slice h0.1 a0.length h0.2), (3, .slice g157.1 ((s157.1.set ((IntKind.wrap .i64 (s157.2 - 1)).toNat) x9_7).set s157.2.toNat x9_3).length g157.2), (4, .int .i64 s1.2), (5, .int .i64 s157.2), (43, .pointer (some ⟨p9_9, 0, none⟩)), (44, .int .i64 x9_3.f0), (45, .pointer (some ⟨p9_10, 0, none⟩)), (46, .int .i64 x9_7.f0), (47, .bool false), (48, .bool false), (49, undef), (50, undef), (51, undef), (52, undef), (53, undef), (54, .bool false)]) (bx' := [⟨p9_10, [.int .i64 x9_7.f0, .int .i64 x9_7.f1], 40⟩, ⟨p9_9, [.int .i64 x9_3.f0, .int .i64 x9_3.f1], 40⟩]) (rw' := [mkRow kd40 40 (.slice g157.1 ((s157.1.set ((IntKind.wrap .i64 (s157.2 - 1)).toNat) x9_7).set s157.2.toNat x9_3).length g157.2) ((s157.1.set ((IntKind.wrap .i64 (s157.2 - 1)).toNat) x9_7).set s157.2.toNat x9_3)]) (by kernel_rfl) (by kernel_rfl) (by simp only [List.length_set, List.length_replicate]) ?_
                    refine J.out ?_
                    refine J.region (by kernel_rfl) ?_
                    refine O.pure 3 [] [0, 3, 4, 5, 43, 44, 45, 46, 47, 48, 49, 50, 51, 52, 53, 54] [] (fr' := [(0, .slice h0.1 a0.length h0.2), (3, .slice g157.1 ((s157.1.set ((IntKind.wrap .i64 (s157.2 - 1)).toNat) x9_7).set s157.2.toNat x9_3).length g157.2), (4, .int .i64 s1.2), (5, .int .i64 (IntKind.wrap .i64 (s157.2 - 1))), (43, .pointer (some ⟨p9_9, 0, none⟩)), (44, .int .i64 x9_3.f0), (45, .pointer (some ⟨p9_10, 0, none⟩)), (46, .int .i64 x9_7.f0), (47, .bool false), (48, .bool false), (49, undef), (50, undef), (51, undef), (52, undef), (53, undef), (54, .bool false)]) (bx' := [⟨p9_10, [.int .i64 x9_7.f0, .int .i64 x9_7.f1], 40⟩, ⟨p9_9, [.int .i64 x9_3.f0, .int .i64 x9_3.f1], 40⟩]) (by kernel_rfl) ?_
                    refine O.nil (by kernel_rfl) ?_
                    exact J.conv2 [0, 3, 4, 5] [0] [] [0] (by kernel_rfl) (by kernel_rfl) (by kernel_rfl) (by kernel_rfl) (by decide) (ih157 (((s157.1.set ((IntKind.wrap .i64 (s157.2 - 1)).toNat) x9_7).set s157.2.toNat x9_3), (IntKind.wrap .i64 (s157.2 - 1))) g157 H)
              · refine J.drawS (by kernel_rfl) [(0, some 28, .slice g157.1 s157.1.length g157.2), (1, some 29, .int .i64 s157.2), (2, some 30, .int .i64 (IntKind.wrap .i64 (s157.2 - 1))), (5, some 33, .slice g157.1 s157.1.length g157.2), (6, some 34, .int .i64 s157.2), (3, some 31, .pointer (some ⟨p9_3.1, 0 + (IntKind.wrap .i64 (s157.2 - 1)).toNat * 2, none⟩)), (4, some 32, .agg #[.int .i64 x9_3.f0, .int .i64 x9_3.f1]), (7, some 35, .pointer (some ⟨p9_7.1, 0 + s157.2.toNat * 2, none⟩)), (8, some 36, .agg #[.int .i64 x9_7.f0, .int .i64 x9_7.f1])] ([0, 1, 2, 5, 6] ++ [3, 4, 7, 8]) (by kernel_rfl) ?_
                refine D.mid (cs := [9, 10]) [0, 1, 2, 5, 6] [3, 4, 7, 8] [] [] (by kernel_rfl) (by kernel_rfl) (⟨QuAt.mk (v := .pointer (some ⟨p9_3.1, 0 + (IntKind.wrap .i64 (s157.2 - 1)).toNat * 2, none⟩)) (some 31) (by kernel_rfl) (by kernel_rfl) (Qu.idx (t := 22) (x := .tmp 28) (y := .tmp 30) (len := s157.1.length) (c := g157.2) (kk := .i64) (sz := 2) (by kernel_rfl) (by kernel_rfl) (by kernel_rfl) (by kernel_rfl) hx9_3a (by have := idx_lt hx9_3; simpa only [List.length_set, List.length_replicate] using this) hp9_3A), QuAt.mk (v := .agg #[.int .i64 x9_3.f0, .int .i64 x9_3.f1]) (some 32) (by kernel_rfl) (by kernel_rfl) (Qu.loadR (t := 40) (x := .tmp 31) (hh := g157) (m := s157.1.length) (i := (IntKind.wrap .i64 (s157.2 - 1)).toNat) (u := .pointer (some ⟨p9_3.1, 0 + (IntKind.wrap .i64 (s157.2 - 1)).toNat * 2, none⟩)) (r := .agg #[.int .i64 x9_3.f0, .int .i64 x9_3.f1]) (cs := [.int .i64 x9_3.f0, .int .i64 x9_3.f1]) 1 0 [p9_3.1, 0 + (IntKind.wrap .i64 (s157.2 - 1)).toNat * 2] (by kernel_rfl) (by kernel_rfl) hp9_3A rfl (by kernel_rfl)), QuAt.mk (v := .pointer (some ⟨p9_7.1, 0 + s157.2.toNat * 2, none⟩)) (some 35) (by kernel_rfl) (by kernel_rfl) (Qu.idx (t := 22) (x := .tmp 33) (y := .tmp 34) (len := s157.1.length) (c := g157.2) (kk := .i64) (sz := 2) (by kernel_rfl) (by kernel_rfl) (by kernel_rfl) (by kernel_rfl) hx9_7a (by have := idx_lt hx9_7; simpa only [List.length_set, List.length_replicate] using this) hp9_7A), QuAt.mk (v := .agg #[.int .i64 x9_7.f0, .int .i64 x9_7.f1]) (some 36) (by kernel_rfl) (by kernel_rfl) (Qu.loadR (t := 40) (x := .tmp 35) (hh := g157) (m := s157.1.length) (i := s157.2.toNat) (u := .pointer (some ⟨p9_7.1, 0 + s157.2.toNat * 2, none⟩)) (r := .agg #[.int .i64 x9_7.f0, .int .i64 x9_7.f1]) (cs := [.int .i64 x9_7.f0, .int .i64 x9_7.f1]) 0 0 [p9_7.1, 0 + s157.2.toNat * 2] (by kernel_rfl) (by kernel_rfl) hp9_7A rfl (by kernel_rfl)), trivial⟩) (by kernel_rfl) ⟨?_, ?_, trivial⟩
                · refine EvStep.mk (some 6) (new := fun p9_9 => []) ([0, 1, 2, 5, 6] ++ [3, 4, 7, 8]) (by kernel_rfl) (Ev.alloc (t := 40) (z := .agg #[.int .i64 0, .int .i64 0]) (by kernel_rfl) (by kernel_rfl)) (fun p9_9 => by kernel_rfl) (fun p9_9 => ?_)
                  refine D.mid (cs := [10]) [0, 1, 2, 5, 6] [3, 4, 7, 8] [] [] (by kernel_rfl) (by kernel_rfl) (⟨QuAt.mk (v := .pointer (some ⟨p9_3.1, 0 + (IntKind.wrap .i64 (s157.2 - 1)).toNat * 2, none⟩)) (some 31) (by kernel_rfl) (by kernel_rfl) (Qu.idx (t := 22) (x := .tmp 28) (y := .tmp 30) (len := s157.1.length) (c := g157.2) (kk := .i64) (sz := 2) (by kernel_rfl) (by kernel_rfl) (by kernel_rfl) (by kernel_rfl) hx9_3a (by have := idx_lt hx9_3; simpa only [List.length_set, List.length_replicate] using this) hp9_3A), QuAt.mk (v := .agg #[.int .i64 x9_3.f0, .int .i64 x9_3.f1]) (some 32) (by kernel_rfl) (by kernel_rfl) (Qu.loadR (t := 40) (x := .tmp 31) (hh := g157) (m := s157.1.length) (i := (IntKind.wrap .i64 (s157.2 - 1)).toNat) (u := .pointer (some ⟨p9_3.1, 0 + (IntKind.wrap .i64 (s157.2 - 1)).toNat * 2, none⟩)) (r := .agg #[.int .i64 x9_3.f0, .int .i64 x9_3.f1]) (cs := [.int .i64 x9_3.f0, .int .i64 x9_3.f1]) 1 0 [p9_3.1, 0 + (IntKind.wrap .i64 (s157.2 - 1)).toNat * 2] (by kernel_rfl) (by kernel_rfl) hp9_3A rfl (by kernel_rfl)), QuAt.mk (v := .pointer (some ⟨p9_7.1, 0 + s157.2.toNat * 2, none⟩)) (some 35) (by kernel_rfl) (by kernel_rfl) (Qu.idx (t := 22) (x := .tmp 33) (y := .tmp 34) (len := s157.1.length) (c := g157.2) (kk := .i64) (sz := 2) (by kernel_rfl) (by kernel_rfl) (by kernel_rfl) (by kernel_rfl) hx9_7a (by have := idx_lt hx9_7; simpa only [List.length_set, List.length_replicate] using this) hp9_7A), QuAt.mk (v := .agg #[.int .i64 x9_7.f0, .int .i64 x9_7.f1]) (some 36) (by kernel_rfl) (by kernel_rfl) (Qu.loadR (t := 40) (x := .tmp 35) (hh := g157) (m := s157.1.length) (i := s157.2.toNat) (u := .pointer (some ⟨p9_7.1, 0 + s157.2.toNat * 2, none⟩)) (r := .agg #[.int .i64 x9_7.f0, .int .i64 x9_7.f1]) (cs := [.int .i64 x9_7.f0, .int .i64 x9_7.f1]) 0 0 [p9_7.1, 0 + s157.2.toNat * 2] (by kernel_rfl) (by kernel_rfl) hp9_7A rfl (by kernel_rfl)), trivial⟩) (by kernel_rfl) ⟨?_, trivial⟩
                  refine EvStep.mk (some 7) (new := fun p9_10 => []) ([0, 1, 2, 5, 6] ++ [3, 4, 7, 8]) (by kernel_rfl) (Ev.alloc (t := 40) (z := .agg #[.int .i64 0, .int .i64 0]) (by kernel_rfl) (by kernel_rfl)) (fun p9_10 => by kernel_rfl) (fun p9_10 => ?_)
                  refine D.mid (cs := [11]) [0, 1, 2, 5, 6] [3, 4, 7, 8] [] [] (by kernel_rfl) (by kernel_rfl) (⟨QuAt.mk (v := .pointer (some ⟨p9_3.1, 0 + (IntKind.wrap .i64 (s157.2 - 1)).toNat * 2, none⟩)) (some 31) (by kernel_rfl) (by kernel_rfl) (Qu.idx (t := 22) (x := .tmp 28) (y := .tmp 30) (len := s157.1.length) (c := g157.2) (kk := .i64) (sz := 2) (by kernel_rfl) (by kernel_rfl) (by kernel_rfl) (by kernel_rfl) hx9_3a (by have := idx_lt hx9_3; simpa only [List.length_set, List.length_replicate] using this) hp9_3A), QuAt.mk (v := .agg #[.int .i64 x9_3.f0, .int .i64 x9_3.f1]) (some 32) (by kernel_rfl) (by kernel_rfl) (Qu.loadR (t := 40) (x := .tmp 31) (hh := g157) (m := s157.1.length) (i := (IntKind.wrap .i64 (s157.2 - 1)).toNat) (u := .pointer (some ⟨p9_3.1, 0 + (IntKind.wrap .i64 (s157.2 - 1)).toNat * 2, none⟩)) (r := .agg #[.int .i64 x9_3.f0, .int .i64 x9_3.f1]) (cs := [.int .i64 x9_3.f0, .int .i64 x9_3.f1]) 1 0 [p9_3.1, 0 + (IntKind.wrap .i64 (s157.2 - 1)).toNat * 2] (by kernel_rfl) (by kernel_rfl) hp9_3A rfl (by kernel_rfl)), QuAt.mk (v := .pointer (some ⟨p9_7.1, 0 + s157.2.toNat * 2, none⟩)) (some 35) (by kernel_rfl) (by kernel_rfl) (Qu.idx (t := 22) (x := .tmp 33) (y := .tmp 34) (len := s157.1.length) (c := g157.2) (kk := .i64) (sz := 2) (by kernel_rfl) (by kernel_rfl) (by kernel_rfl) (by kernel_rfl) hx9_7a (by have := idx_lt hx9_7; simpa only [List.length_set, List.length_replicate] using this) hp9_7A), QuAt.mk (v := .agg #[.int .i64 x9_7.f0, .int .i64 x9_7.f1]) (some 36) (by kernel_rfl) (by kernel_rfl) (Qu.loadR (t := 40) (x := .tmp 35) (hh := g157) (m := s157.1.length) (i := s157.2.toNat) (u := .pointer (some ⟨p9_7.1, 0 + s157.2.toNat * 2, none⟩)) (r := .agg #[.int .i64 x9_7.f0, .int .i64 x9_7.f1]) (cs := [.int .i64 x9_7.f0, .int .i64 x9_7.f1]) 0 0 [p9_7.1, 0 + s157.2.toNat * 2] (by kernel_rfl) (by kernel_rfl) hp9_7A rfl (by kernel_rfl)), trivial⟩) (by kernel_rfl) ⟨?_, trivial⟩
                  refine EvStep.mk none (new := fun _ => []) ([5, 6] ++ [7, 8]) (by kernel_rfl) (Ev.store (kk := 1) (cs := [.int .i64 x9_3.f0, .int .i64 x9_3.f1]) (1, 0) [p9_9, 0] (by kernel_rfl)) (fun _ => by kernel_rfl) (fun _ => ?_)
                  refine D.mid (cs := [12]) [5, 6] [7, 8] [] [] (by kernel_rfl) (by kernel_rfl) (⟨QuAt.mk (v := .pointer (some ⟨p9_7.1, 0 + s157.2.toNat * 2, none⟩)) (some 35) (by kernel_rfl) (by kernel_rfl) (Qu.idx (t := 22) (x := .tmp 33) (y := .tmp 34) (len := s157.1.length) (c := g157.2) (kk := .i64) (sz := 2) (by kernel_rfl) (by kernel_rfl) (by kernel_rfl) (by kernel_rfl) hx9_7a (by have := idx_lt hx9_7; simpa only [List.length_set, List.length_replicate] using this) hp9_7A), QuAt.mk (v := .agg #[.int .i64 x9_7.f0, .int .i64 x9_7.f1]) (some 36) (by kernel_rfl) (by kernel_rfl) (Qu.loadR (t := 40) (x := .tmp 35) (hh := g157) (m := s157.1.length) (i := s157.2.toNat) (u := .pointer (some ⟨p9_7.1, 0 + s157.2.toNat * 2, none⟩)) (r := .agg #[.int .i64 x9_7.f0, .int .i64 x9_7.f1]) (cs := [.int .i64 x9_7.f0, .int .i64 x9_7.f1]) 0 0 [p9_7.1, 0 + s157.2.toNat * 2] (by kernel_rfl) (by kernel_rfl) hp9_7A rfl (by kernel_rfl)), trivial⟩) (by kernel_rfl) ⟨?_, trivial⟩
                  refine EvStep.mk none (new := fun _ => []) ([] ++ []) (by kernel_rfl) (Ev.store (kk := 0) (cs := [.int .i64 x9_7.f0, .int .i64 x9_7.f1]) (0, 0) [p9_10, 0] (by kernel_rfl)) (fun _ => by kernel_rfl) (fun _ => ?_)
                  refine D.fin (fr' := [(0, .slice h0.1 a0.length h0.2), (3, .slice g157.1 s157.1.length g157.2), (4, .int .i64 s1.2), (5, .int .i64 s157.2), (6, .pointer (some ⟨p9_9, 0, none⟩)), (7, .pointer (some ⟨p9_10, 0, none⟩))]) [] [] [] [] [0, 3, 4, 5, 6, 7] (by kernel_rfl) (by kernel_rfl) trivial (by kernel_rfl) ?_
                  exact J.conv2 [0, 3, 4, 5, 6, 7] [0] [0, 1] [0] (by kernel_rfl) (by kernel_rfl) (by kernel_rfl) (by kernel_rfl) (by decide) (hk_ (p9_9, p9_10))
                · refine EvStep.mk (some 7) (new := fun p9_10 => []) ([0, 1, 2, 5, 6] ++ [3, 4, 7, 8]) (by kernel_rfl) (Ev.alloc (t := 40) (z := .agg #[.int .i64 0, .int .i64 0]) (by kernel_rfl) (by kernel_rfl)) (fun p9_10 => by kernel_rfl) (fun p9_10 => ?_)
                  refine D.mid (cs := [9]) [0, 1, 2, 5, 6] [3, 4, 7, 8] [] [] (by kernel_rfl) (by kernel_rfl) (⟨QuAt.mk (v := .pointer (some ⟨p9_3.1, 0 + (IntKind.wrap .i64 (s157.2 - 1)).toNat * 2, none⟩)) (some 31) (by kernel_rfl) (by kernel_rfl) (Qu.idx (t := 22) (x := .tmp 28) (y := .tmp 30) (len := s157.1.length) (c := g157.2) (kk := .i64) (sz := 2) (by kernel_rfl) (by kernel_rfl) (by kernel_rfl) (by kernel_rfl) hx9_3a (by have := idx_lt hx9_3; simpa only [List.length_set, List.length_replicate] using this) hp9_3A), QuAt.mk (v := .agg #[.int .i64 x9_3.f0, .int .i64 x9_3.f1]) (some 32) (by kernel_rfl) (by kernel_rfl) (Qu.loadR (t := 40) (x := .tmp 31) (hh := g157) (m := s157.1.length) (i := (IntKind.wrap .i64 (s157.2 - 1)).toNat) (u := .pointer (some ⟨p9_3.1, 0 + (IntKind.wrap .i64 (s157.2 - 1)).toNat * 2, none⟩)) (r := .agg #[.int .i64 x9_3.f0, .int .i64 x9_3.f1]) (cs := [.int .i64 x9_3.f0, .int .i64 x9_3.f1]) 1 0 [p9_3.1, 0 + (IntKind.wrap .i64 (s157.2 - 1)).toNat * 2] (by kernel_rfl) (by kernel_rfl) hp9_3A rfl (by kernel_rfl)), QuAt.mk (v := .pointer (some ⟨p9_7.1, 0 + s157.2.toNat * 2, none⟩)) (some 35) (by kernel_rfl) (by kernel_rfl) (Qu.idx (t := 22) (x := .tmp 33) (y := .tmp 34) (len := s157.1.length) (c := g157.2) (kk := .i64) (sz := 2) (by kernel_rfl) (by kernel_rfl) (by kernel_rfl) (by kernel_rfl) hx9_7a (by have := idx_lt hx9_7; simpa only [List.length_set, List.length_replicate] using this) hp9_7A), QuAt.mk (v := .agg #[.int .i64 x9_7.f0, .int .i64 x9_7.f1]) (some 36) (by kernel_rfl) (by kernel_rfl) (Qu.loadR (t := 40) (x := .tmp 35) (hh := g157) (m := s157.1.length) (i := s157.2.toNat) (u := .pointer (some ⟨p9_7.1, 0 + s157.2.toNat * 2, none⟩)) (r := .agg #[.int .i64 x9_7.f0, .int .i64 x9_7.f1]) (cs := [.int .i64 x9_7.f0, .int .i64 x9_7.f1]) 0 0 [p9_7.1, 0 + s157.2.toNat * 2] (by kernel_rfl) (by kernel_rfl) hp9_7A rfl (by kernel_rfl)), trivial⟩) (by kernel_rfl) ⟨?_, trivial⟩
                  refine EvStep.mk (some 6) (new := fun p9_9 => []) ([0, 1, 2, 5, 6] ++ [3, 4, 7, 8]) (by kernel_rfl) (Ev.alloc (t := 40) (z := .agg #[.int .i64 0, .int .i64 0]) (by kernel_rfl) (by kernel_rfl)) (fun p9_9 => by kernel_rfl) (fun p9_9 => ?_)
                  refine D.mid (cs := [11]) [0, 1, 2, 5, 6] [3, 4, 7, 8] [] [] (by kernel_rfl) (by kernel_rfl) (⟨QuAt.mk (v := .pointer (some ⟨p9_3.1, 0 + (IntKind.wrap .i64 (s157.2 - 1)).toNat * 2, none⟩)) (some 31) (by kernel_rfl) (by kernel_rfl) (Qu.idx (t := 22) (x := .tmp 28) (y := .tmp 30) (len := s157.1.length) (c := g157.2) (kk := .i64) (sz := 2) (by kernel_rfl) (by kernel_rfl) (by kernel_rfl) (by kernel_rfl) hx9_3a (by have := idx_lt hx9_3; simpa only [List.length_set, List.length_replicate] using this) hp9_3A), QuAt.mk (v := .agg #[.int .i64 x9_3.f0, .int .i64 x9_3.f1]) (some 32) (by kernel_rfl) (by kernel_rfl) (Qu.loadR (t := 40) (x := .tmp 31) (hh := g157) (m := s157.1.length) (i := (IntKind.wrap .i64 (s157.2 - 1)).toNat) (u := .pointer (some ⟨p9_3.1, 0 + (IntKind.wrap .i64 (s157.2 - 1)).toNat * 2, none⟩)) (r := .agg #[.int .i64 x9_3.f0, .int .i64 x9_3.f1]) (cs := [.int .i64 x9_3.f0, .int .i64 x9_3.f1]) 1 0 [p9_3.1, 0 + (IntKind.wrap .i64 (s157.2 - 1)).toNat * 2] (by kernel_rfl) (by kernel_rfl) hp9_3A rfl (by kernel_rfl)), QuAt.mk (v := .pointer (some ⟨p9_7.1, 0 + s157.2.toNat * 2, none⟩)) (some 35) (by kernel_rfl) (by kernel_rfl) (Qu.idx (t := 22) (x := .tmp 33) (y := .tmp 34) (len := s157.1.length) (c := g157.2) (kk := .i64) (sz := 2) (by kernel_rfl) (by kernel_rfl) (by kernel_rfl) (by kernel_rfl) hx9_7a (by have := idx_lt hx9_7; simpa only [List.length_set, List.length_replicate] using this) hp9_7A), QuAt.mk (v := .agg #[.int .i64 x9_7.f0, .int .i64 x9_7.f1]) (some 36) (by kernel_rfl) (by kernel_rfl) (Qu.loadR (t := 40) (x := .tmp 35) (hh := g157) (m := s157.1.length) (i := s157.2.toNat) (u := .pointer (some ⟨p9_7.1, 0 + s157.2.toNat * 2, none⟩)) (r := .agg #[.int .i64 x9_7.f0, .int .i64 x9_7.f1]) (cs := [.int .i64 x9_7.f0, .int .i64 x9_7.f1]) 0 0 [p9_7.1, 0 + s157.2.toNat * 2] (by kernel_rfl) (by kernel_rfl) hp9_7A rfl (by kernel_rfl)), trivial⟩) (by kernel_rfl) ⟨?_, trivial⟩
                  refine EvStep.mk none (new := fun _ => []) ([5, 6] ++ [7, 8]) (by kernel_rfl) (Ev.store (kk := 0) (cs := [.int .i64 x9_3.f0, .int .i64 x9_3.f1]) (0, 0) [p9_9, 0] (by kernel_rfl)) (fun _ => by kernel_rfl) (fun _ => ?_)
                  refine D.mid (cs := [12]) [5, 6] [7, 8] [] [] (by kernel_rfl) (by kernel_rfl) (⟨QuAt.mk (v := .pointer (some ⟨p9_7.1, 0 + s157.2.toNat * 2, none⟩)) (some 35) (by kernel_rfl) (by kernel_rfl) (Qu.idx (t := 22) (x := .tmp 33) (y := .tmp 34) (len := s157.1.length) (c := g157.2) (kk := .i64) (sz := 2) (by kernel_rfl) (by kernel_rfl) (by kernel_rfl) (by kernel_rfl) hx9_7a (by have := idx_lt hx9_7; simpa only [List.length_set, List.length_replicate] using this) hp9_7A), QuAt.mk (v := .agg #[.int .i64 x9_7.f0, .int .i64 x9_7.f1]) (some 36) (by kernel_rfl) (by kernel_rfl) (Qu.loadR (t := 40) (x := .tmp 35) (hh := g157) (m := s157.1.length) (i := s157.2.toNat) (u := .pointer (some ⟨p9_7.1, 0 + s157.2.toNat * 2, none⟩)) (r := .agg #[.int .i64 x9_7.f0, .int .i64 x9_7.f1]) (cs := [.int .i64 x9_7.f0, .int .i64 x9_7.f1]) 0 0 [p9_7.1, 0 + s157.2.toNat * 2] (by kernel_rfl) (by kernel_rfl) hp9_7A rfl (by kernel_rfl)), trivial⟩) (by kernel_rfl) ⟨?_, trivial⟩
                  refine EvStep.mk none (new := fun _ => []) ([] ++ []) (by kernel_rfl) (Ev.store (kk := 1) (cs := [.int .i64 x9_7.f0, .int .i64 x9_7.f1]) (1, 0) [p9_10, 0] (by kernel_rfl)) (fun _ => by kernel_rfl) (fun _ => ?_)
                  refine D.fin (fr' := [(0, .slice h0.1 a0.length h0.2), (3, .slice g157.1 s157.1.length g157.2), (4, .int .i64 s1.2), (5, .int .i64 s157.2), (6, .pointer (some ⟨p9_9, 0, none⟩)), (7, .pointer (some ⟨p9_10, 0, none⟩))]) [] [] [] [] [0, 3, 4, 5, 6, 7] (by kernel_rfl) (by kernel_rfl) trivial (by kernel_rfl) ?_
                  exact J.conv2 [0, 3, 4, 5, 6, 7] [0] [1, 0] [0] (by kernel_rfl) (by kernel_rfl) (by kernel_rfl) (by kernel_rfl) (by decide) (hk_ (p9_9, p9_10))
            · refine J.condF (x := .tmp 25) (t := (decide (s157.2 > 0))) (by kernel_rfl) (by kernel_rfl) hc166 ?_
              refine J.exit (id := 2) (by kernel_rfl) rfl ?_
              obtain rfl := Option.some.inj H
              exact J.conv2 [0, 3, 4] [0] [] [0] (by kernel_rfl) (by kernel_rfl) (by kernel_rfl) (by kernel_rfl) (by decide) (hj143 g157)
          · exact J.conv2 [0, 3, 4, 5] [0] [] [0] (by kernel_rfl) (by kernel_rfl) (by kernel_rfl) (by kernel_rfl) (by decide) h_
    · refine J.condF (x := .tmp 11) (t := (decide (s1.2 < (a0.length : Int)))) (by kernel_rfl) (by kernel_rfl) hc114 ?_
      refine J.exit (id := 0) (by kernel_rfl) rfl ?_
      refine J.seq (by kernel_rfl) ?_
      refine J.region (by kernel_rfl) ?_
      refine O.pure 2 [] [2] [] (fr' := [(2, .slice g1.1 s1.1.length g1.2)]) (bx' := []) (by kernel_rfl) ?_
      refine O.nil (by kernel_rfl) ?_
      obtain rfl := Option.some.inj H
      exact J.doneS [] [] [] [] [0] g1 (vs := [.slice g1.1 s1.1.length g1.2]) (by kernel_rfl) (by kernel_rfl) (by kernel_rfl) (by kernel_rfl) (by kernel_rfl) (by decide)
  · refine J.nilrow kd40 40 ?_
    exact J.conv2 [0, 3, 4] [0] [] [0] (by kernel_rfl) (by kernel_rfl) (by kernel_rfl) (by kernel_rfl) (by decide) h_
/-! ### haywain/haywainref05.Join: function 17 -/
def haywainref05_Join.l1 (K : Nat) (a0 : List (List S40)) : Nat → ((List S40) × Int) → Option (List S40)
  | 0, _ => none
  | k + 1, s1 => cond (decide (s1.2 < (a0.length : Int))) ((idxO a0 s1.2).bind fun x5_3 => (appO 16 s1.1 x5_3).bind fun y5_5 => haywainref05_Join.l1 K a0 k ((s1.1 ++ x5_3), (IntKind.wrap .i64 (s1.2 + 1)))) ((haywainref05_Sort.f K s1.1).bind fun x6_1 => some (x6_1))
def haywainref05_Join.f (K : Nat) (a0 : List (List S40)) : Option (List S40) := haywainref05_Join.l1 K a0 K (([] : List S40), 0)
set_option maxRecDepth 100000 in
set_option maxHeartbeats 1000000 in
theorem haywainref05_Join.con (K : Nat) (a0 : List (List S40)) (h0 : Hd) (r : (List S40)) (X : Nat → Nat → Prop) (w : World) (hS : St X w [] [] [] [] [Rd (Kd.slice kd40) h0.1 h0.2 a0] w) (H : haywainref05_Join.f K a0 = some r) :
    Cn Try.prog 17 [.slice h0.1 a0.length h0.2] X w [] (fun i : Hd => .slice i.1 r.length i.2) (fun i => []) (fun i => [mkRow kd40 40 (.slice i.1 r.length i.2) r]) (fun i => []) := by
  refine Cn.of Try.func17 (by kernel_rfl) hS ?_
  unfold haywainref05_Join.f at H
  refine J.seq (by kernel_rfl) ?_
  refine J.region (by kernel_rfl) ?_
  refine O.pure 1 [] [0] [] (fr' := [(0, .slice h0.1 a0.length h0.2)]) (bx' := []) (by kernel_rfl) ?_
  refine O.nil (by kernel_rfl) ?_
  refine J.seq (by kernel_rfl) ?_
  refine J.region (by kernel_rfl) ?_
  refine O.pure 1 [] [0, 3] [] (fr' := [(0, .slice h0.1 a0.length h0.2), (3, .slice none 0 0)]) (bx' := []) (by kernel_rfl) ?_
  refine O.nil (by kernel_rfl) ?_
  refine J.seq (by kernel_rfl) ?_
  refine J.seq (by kernel_rfl) ?_
  refine J.region (by kernel_rfl) ?_
  refine O.pure 1 [] [0, 3, 4] [] (fr' := [(0, .slice h0.1 a0.length h0.2), (3, .slice none 0 0), (4, .int .i64 0)]) (bx' := []) (by kernel_rfl) ?_
  refine O.nil (by kernel_rfl) ?_
  refine J.block (id := 0) (by kernel_rfl) ?_
  refine J.loopI (σ := (List S40) × Int) (γ := Hd) (f := fun m_ s_ => haywainref05_Join.l1 K a0 m_ s_) (fun s1 g1 => [(0, .slice h0.1 a0.length h0.2), (3, .slice g1.1 s1.1.length g1.2), (4, .int .i64 s1.2)]) (fun s1 g1 => St X w [] [] [mkRow kd40 40 (.slice g1.1 s1.1.length g1.2) s1.1] [] [Rd (Kd.slice kd40) h0.1 h0.2 a0]) K (([] : List S40), 0) (none, 0) (by kernel_rfl) H (fun _ => rfl) (fun m_ s1 H ih1 g1 => ?_) (fun h_ => ?_)
  · unfold haywainref05_Join.l1 at H
    refine J.seq (by kernel_rfl) ?_
    refine J.seq (by kernel_rfl) ?_
    refine J.region (by kernel_rfl) ?_
    refine O.pure 4 [] [0, 3, 4, 8] [] (fr' := [(0, .slice h0.1 a0.length h0.2), (3, .slice g1.1 s1.1.length g1.2), (4, .int .i64 s1.2), (8, .bool (decide (s1.2 < (a0.length : Int))))]) (bx' := []) (by kernel_rfl) ?_
    refine O.nil (by kernel_rfl) ?_
    rcases condE H with ⟨hc4, H⟩ | ⟨hc4, H⟩
    · refine J.condT (x := .tmp 8) (t := (decide (s1.2 < (a0.length : Int)))) (by kernel_rfl) (by kernel_rfl) hc4 ?_
      refine J.skip (by kernel_rfl) ?_
      refine J.seq (by kernel_rfl) ?_
      refine J.block (id := 1) (by kernel_rfl) ?_
      obtain ⟨x5_3, hx5_3, H⟩ := bindE H
      obtain ⟨hx5_3a, hx5_3⟩ := idxE hx5_3
      obtain ⟨y5_5, hy5_5, H⟩ := bindE H
      have hy5_5a := (appE hy5_5).1
      refine J.region (by kernel_rfl) ?_
      refine O.pure 3 [] [0, 3, 4, 11, 12, 13] [] (fr' := [(0, .slice h0.1 a0.length h0.2), (3, .slice g1.1 s1.1.length g1.2), (4, .int .i64 s1.2), (11, .slice g1.1 s1.1.length g1.2), (12, .slice h0.1 a0.length h0.2), (13, .int .i64 s1.2)]) (bx' := []) (by kernel_rfl) ?_
      refine O.open (d := (Kd.slice kd40)) (h := h0) (i := s1.2) 0 rfl hx5_3 (Lay.slice _ _) (fun p5_3 hp5_3A => ?_)
      refine O.q (v := .pointer (some ⟨p5_3.1, p5_3.2.1 + s1.2.toNat * 1, none⟩)) (some 14) (Qu.idx (t := 27) (x := .tmp 12) (y := .tmp 13) (c := h0.2) (kk := .i64) (sz := 1) (by kernel_rfl) (by kernel_rfl) (by kernel_rfl) (by kernel_rfl) hx5_3a (idx_lt hx5_3) hp5_3A) (by kernel_rfl) ?_
      refine O.pure 1 [(0, 0)] [0, 3, 4, 11, 15] [p5_3.1, p5_3.2.1 + s1.2.toNat * 1] (fr' := [(0, .slice h0.1 a0.length h0.2), (3, .slice g1.1 s1.1.length g1.2), (4, .int .i64 s1.2), (11, .slice g1.1 s1.1.length g1.2), (15, .slice p5_3.2.2.1 x5_3.length p5_3.2.2.2)]) (bx' := []) (by kernel_rfl) ?_
      refine O.e (some 16) (Ev.appSl (d := kd40) (ys := x5_3) (A := p5_3.2.2.1) (c := p5_3.2.2.2) (x := .tmp 11) (y := .tmp 15) (t := 22) (bytes := 16) 0 (by kernel_rfl) (by kernel_rfl) (by kernel_rfl) rfl (by kernel_rfl) (by decide) hy5_5a) (by kernel_rfl) (fun p5_5 => ?_)
      refine O.pure 1 [] [0, 3, 4] [] (fr' := [(0, .slice h0.1 a0.length h0.2), (3, .slice p5_5.1 (s1.1 ++ x5_3).length p5_5.2), (4, .int .i64 s1.2)]) (bx' := []) (by kernel_rfl) ?_
      refine O.nil (by kernel_rfl) ?_
      refine J.out ?_
      refine J.region (by kernel_rfl) ?_
      refine O.pure 3 [] [0, 3, 4] [] (fr' := [(0, .slice h0.1 a0.length h0.2), (3, .slice p5_5.1 (s1.1 ++ x5_3).length p5_5.2), (4, .int .i64 (IntKind.wrap .i64 (s1.2 + 1)))]) (bx' := []) (by kernel_rfl) ?_
      refine O.nil (by kernel_rfl) ?_
      exact J.conv2 [0, 3, 4] [1] [] [0] (by kernel_rfl) (by kernel_rfl) (by kernel_rfl) (by kernel_rfl) (by decide) (ih1 ((s1.1 ++ x5_3), (IntKind.wrap .i64 (s1.2 + 1))) p5_5 H)
    · refine J.condF (x := .tmp 8) (t := (decide (s1.2 < (a0.length : Int)))) (by kernel_rfl) (by kernel_rfl) hc4 ?_
      refine J.exit (id := 0) (by kernel_rfl) rfl ?_
      refine J.seq (by kernel_rfl) ?_
      obtain ⟨x6_1, hx6_1, H⟩ := bindE H
      refine J.region (by kernel_rfl) ?_
      refine O.pure 1 [] [17] [] (fr' := [(17, .slice g1.1 s1.1.length g1.2)]) (bx' := []) (by kernel_rfl) ?_
      refine O.e (some 18) (Ev.callL (hh := g1) (xs := s1.1) (m := s1.1.length) (xs1 := [.tmp 17]) [0] rfl (by kernel_rfl) (by kernel_rfl) (fun _ q hq _ _ _ h => by obtain rfl := List.mem_singleton.1 hq; exact h) (fun w hS => haywainref05_Sort.con K s1.1 g1  _ _ w hS hx6_1)) (by kernel_rfl) (fun p6_1 => ?_)
      refine O.pure 1 [] [2] [] (fr' := [(2, .slice p6_1.1 x6_1.length p6_1.2)]) (bx' := []) (by kernel_rfl) ?_
      refine O.nil (by kernel_rfl) ?_
      obtain rfl := Option.some.inj H
      exact J.doneS [] [] [] [] [0] p6_1 (vs := [.slice p6_1.1 x6_1.length p6_1.2]) (by kernel_rfl) (by kernel_rfl) (by kernel_rfl) (by kernel_rfl) (by kernel_rfl) (by decide)
  · refine J.nilrow kd40 40 ?_
    exact J.conv2 [0, 3, 4] [0] [] [0] (by kernel_rfl) (by kernel_rfl) (by kernel_rfl) (by kernel_rfl) (by decide) h_
/-! ### haywain/haywainref01.Add: function 30 -/
def haywainref01_Add.f (K : Nat) (a0 : Int) (a1 : Int) : Option (Int × Bool) := cond (decide (a1 > 0)) (cond (decide (a0 > (IntKind.wrap .i64 (9223372036854775807 - a1)))) (some ((0, false))) (cond (decide (a1 < 0)) (cond (decide (a0 < (IntKind.wrap .i64 ((-9223372036854775808) - a1)))) (some ((0, false))) (some (((IntKind.wrap .i64 (a0 + a1)), true)))) (some (((IntKind.wrap .i64 (a0 + a1)), true))))) (cond (decide (a1 < 0)) (cond (decide (a0 < (IntKind.wrap .i64 ((-9223372036854775808) - a1)))) (some ((0, false))) (some (((IntKind.wrap .i64 (a0 + a1)), true)))) (some (((IntKind.wrap .i64 (a0 + a1)), true))))
set_option maxRecDepth 100000 in
set_option maxHeartbeats 1000000 in
theorem haywainref01_Add.con (K : Nat) (a0 : Int) (a1 : Int) (r : (Int × Bool)) (X : Nat → Nat → Prop) (w : World) (hS : St X w [] [] [] [] [] w) (H : haywainref01_Add.f K a0 a1 = some r) :
    Cn Try.prog 30 [.int .i64 a0, .int .i64 a1] X w [] (fun i : Unit => .tuple #[.int .i64 r.1, .bool r.2]) (fun i => []) (fun i => []) (fun i => []) := by
  refine Cn.of Try.func30 (by kernel_rfl) hS ?_
  unfold haywainref01_Add.f at H
  refine J.seq (by kernel_rfl) ?_
  refine J.region (by kernel_rfl) ?_
  refine O.pure 2 [] [0, 1] [] (fr' := [(0, .int .i64 a0), (1, .int .i64 a1)]) (bx' := []) (by kernel_rfl) ?_
  refine O.nil (by kernel_rfl) ?_
  refine J.seq (by kernel_rfl) ?_
  refine J.seq (by kernel_rfl) ?_
  rcases condE H with ⟨hc1, H⟩ | ⟨hc1, H⟩
  · rcases condE H with ⟨hc2, H⟩ | ⟨hc2, H⟩
    · refine J.region (by kernel_rfl) ?_
      refine O.pure 1 [] [0, 1, 6] [] (fr' := [(0, .int .i64 a0), (1, .int .i64 a1), (6, .int .i64 a1)]) (bx' := []) (by kernel_rfl) ?_
      refine O.q (v := .bool true) (some 7) (Qu.eqv (u := .bool (decide (a1 > 0))) (v := .bool true) (0, 0) [] (by kernel_rfl) (congrArg Value.bool hc1)) (by kernel_rfl) ?_
      refine O.pure 4 [] [0, 1, 8, 9, 11] [] (fr' := [(0, .int .i64 a0), (1, .int .i64 a1), (8, .bool true), (9, .int .i64 a0), (11, .int .i64 (IntKind.wrap .i64 (9223372036854775807 - a1)))]) (bx' := []) (by kernel_rfl) ?_
      refine O.q (v := .bool true) (some 12) (Qu.eqv (u := .bool (decide (a0 > (IntKind.wrap .i64 (9223372036854775807 - a1))))) (v := .bool true) (0, 0) [] (by kernel_rfl) (congrArg Value.bool hc2)) (by kernel_rfl) ?_
      refine O.pure 11 [] [0, 1, 23] [] (fr' := [(0, .int .i64 a0), (1, .int .i64 a1), (23, .bool true)]) (bx' := []) (by kernel_rfl) ?_
      refine O.nil (by kernel_rfl) ?_
      refine J.cond (o := .tmp 23) true (by kernel_rfl) (by kernel_rfl) ?_
      refine J.seq (by kernel_rfl) ?_
      refine J.region (by kernel_rfl) ?_
      refine O.pure 2 [] [4, 5] [] (fr' := [(4, .int .i64 0), (5, .bool false)]) (bx' := []) (by kernel_rfl) ?_
      refine O.nil (by kernel_rfl) ?_
      obtain rfl := Option.some.inj H
      exact J.doneS [] [] [] [] [] () (vs := [.int .i64 0, .bool false]) (by kernel_rfl) (by kernel_rfl) (by kernel_rfl) (by kernel_rfl) (by kernel_rfl) (by decide)
    · rcases condE H with ⟨hc3, H⟩ | ⟨hc3, H⟩
      · refine J.region (by kernel_rfl) ?_
        refine O.pure 1 [] [0, 1, 6] [] (fr' := [(0, .int .i64 a0), (1, .int .i64 a1), (6, .int .i64 a1)]) (bx' := []) (by kernel_rfl) ?_
        refine O.q (v := .bool true) (some 7) (Qu.eqv (u := .bool (decide (a1 > 0))) (v := .bool true) (0, 0) [] (by kernel_rfl) (congrArg Value.bool hc1)) (by kernel_rfl) ?_
        refine O.pure 4 [] [0, 1, 8, 9, 11] [] (fr' := [(0, .int .i64 a0), (1, .int .i64 a1), (8, .bool true), (9, .int .i64 a0), (11, .int .i64 (IntKind.wrap .i64 (9223372036854775807 - a1)))]) (bx' := []) (by kernel_rfl) ?_
        refine O.q (v := .bool false) (some 12) (Qu.eqv (u := .bool (decide (a0 > (IntKind.wrap .i64 (9223372036854775807 - a1))))) (v := .bool false) (0, 0) [] (by kernel_rfl) (congrArg Value.bool hc2)) (by kernel_rfl) ?_
        refine O.pure 3 [] [0, 1, 14, 15] [] (fr' := [(0, .int .i64 a0), (1, .int .i64 a1), (14, .bool false), (15, .int .i64 a1)]) (bx' := []) (by kernel_rfl) ?_
        refine O.q (v := .bool true) (some 16) (Qu.eqv (u := .bool (decide (a1 < 0))) (v := .bool true) (0, 0) [] (by kernel_rfl) (congrArg Value.bool hc3)) (by kernel_rfl) ?_
        refine O.pure 7 [] [0, 1, 23] [] (fr' := [(0, .int .i64 a0), (1, .int .i64 a1), (23, .bool (decide (a0 < (IntKind.wrap .i64 ((-9223372036854775808) - a1)))))]) (bx' := []) (by kernel_rfl) ?_
        refine O.nil (by kernel_rfl) ?_
        rcases condE H with ⟨hc4, H⟩ | ⟨hc4, H⟩
        · refine J.condT (x := .tmp 23) (t := (decide (a0 < (IntKind.wrap .i64 ((-9223372036854775808) - a1))))) (by kernel_rfl) (by kernel_rfl) hc4 ?_
          refine J.seq (by kernel_rfl) ?_
          refine J.region (by kernel_rfl) ?_
          refine O.pure 2 [] [4, 5] [] (fr' := [(4, .int .i64 0), (5, .bool false)]) (bx' := []) (by kernel_rfl) ?_
          refine O.nil (by kernel_rfl) ?_
          obtain rfl := Option.some.inj H
          exact J.doneS [] [] [] [] [] () (vs := [.int .i64 0, .bool false]) (by kernel_rfl) (by kernel_rfl) (by kernel_rfl) (by kernel_rfl) (by kernel_rfl) (by decide)
        · refine J.condF (x := .tmp 23) (t := (decide (a0 < (IntKind.wrap .i64 ((-9223372036854775808) - a1))))) (by kernel_rfl) (by kernel_rfl) hc4 ?_
          refine J.skip (by kernel_rfl) ?_
          refine J.seq (by kernel_rfl) ?_
          refine J.region (by kernel_rfl) ?_
          refine O.pure 5 [] [4, 5] [] (fr' := [(4, .int .i64 (IntKind.wrap .i64 (a0 + a1))), (5, .bool true)]) (bx' := []) (by kernel_rfl) ?_
          refine O.nil (by kernel_rfl) ?_
          obtain rfl := Option.some.inj H
          exact J.doneS [] [] [] [] [] () (vs := [.int .i64 (IntKind.wrap .i64 (a0 + a1)), .bool true]) (by kernel_rfl) (by kernel_rfl) (by kernel_rfl) (by kernel_rfl) (by kernel_rfl) (by decide)
      · refine J.region (by kernel_rfl) ?_
        refine O.pure 1 [] [0, 1, 6] [] (fr' := [(0, .int .i64 a0), (1, .int .i64 a1), (6, .int .i64 a1)]) (bx' := []) (by kernel_rfl) ?_
        refine O.q (v := .bool true) (some 7) (Qu.eqv (u := .bool (decide (a1 > 0))) (v := .bool true) (0, 0) [] (by kernel_rfl) (congrArg Value.bool hc1)) (by kernel_rfl) ?_
        refine O.pure 4 [] [0, 1, 8, 9, 11] [] (fr' := [(0, .int .i64 a0), (1, .int .i64 a1), (8, .bool true), (9, .int .i64 a0), (11, .int .i64 (IntKind.wrap .i64 (9223372036854775807 - a1)))]) (bx' := []) (by kernel_rfl) ?_
        refine O.q (v := .bool false) (some 12) (Qu.eqv (u := .bool (decide (a0 > (IntKind.wrap .i64 (9223372036854775807 - a1))))) (v := .bool false) (0, 0) [] (by kernel_rfl) (congrArg Value.bool hc2)) (by kernel_rfl) ?_
        refine O.pure 3 [] [0, 1, 14, 15] [] (fr' := [(0, .int .i64 a0), (1, .int .i64 a1), (14, .bool false), (15, .int .i64 a1)]) (bx' := []) (by kernel_rfl) ?_
        refine O.q (v := .bool false) (some 16) (Qu.eqv (u := .bool (decide (a1 < 0))) (v := .bool false) (0, 0) [] (by kernel_rfl) (congrArg Value.bool hc3)) (by kernel_rfl) ?_
        refine O.pure 7 [] [0, 1, 23] [] (fr' := [(0, .int .i64 a0), (1, .int .i64 a1), (23, .bool false)]) (bx' := []) (by kernel_rfl) ?_
        refine O.nil (by kernel_rfl) ?_
        refine J.cond (o := .tmp 23) false (by kernel_rfl) (by kernel_rfl) ?_
        refine J.skip (by kernel_rfl) ?_
        refine J.seq (by kernel_rfl) ?_
        refine J.region (by kernel_rfl) ?_
        refine O.pure 5 [] [4, 5] [] (fr' := [(4, .int .i64 (IntKind.wrap .i64 (a0 + a1))), (5, .bool true)]) (bx' := []) (by kernel_rfl) ?_
        refine O.nil (by kernel_rfl) ?_
        obtain rfl := Option.some.inj H
        exact J.doneS [] [] [] [] [] () (vs := [.int .i64 (IntKind.wrap .i64 (a0 + a1)), .bool true]) (by kernel_rfl) (by kernel_rfl) (by kernel_rfl) (by kernel_rfl) (by kernel_rfl) (by decide)
  · rcases condE H with ⟨hc5, H⟩ | ⟨hc5, H⟩
    · refine J.region (by kernel_rfl) ?_
      refine O.pure 1 [] [0, 1, 6] [] (fr' := [(0, .int .i64 a0), (1, .int .i64 a1), (6, .int .i64 a1)]) (bx' := []) (by kernel_rfl) ?_
      refine O.q (v := .bool false) (some 7) (Qu.eqv (u := .bool (decide (a1 > 0))) (v := .bool false) (0, 0) [] (by kernel_rfl) (congrArg Value.bool hc1)) (by kernel_rfl) ?_
      refine O.pure 8 [] [0, 1, 14, 15] [] (fr' := [(0, .int .i64 a0), (1, .int .i64 a1), (14, .bool false), (15, .int .i64 a1)]) (bx' := []) (by kernel_rfl) ?_
      refine O.q (v := .bool true) (some 16) (Qu.eqv (u := .bool (decide (a1 < 0))) (v := .bool true) (0, 0) [] (by kernel_rfl) (congrArg Value.bool hc5)) (by kernel_rfl) ?_
      refine O.pure 7 [] [0, 1, 23] [] (fr' := [(0, .int .i64 a0), (1, .int .i64 a1), (23, .bool (decide (a0 < (IntKind.wrap .i64 ((-9223372036854775808) - a1)))))]) (bx' := []) (by kernel_rfl) ?_
      refine O.nil (by kernel_rfl) ?_
      rcases condE H with ⟨hc6, H⟩ | ⟨hc6, H⟩
      · refine J.condT (x := .tmp 23) (t := (decide (a0 < (IntKind.wrap .i64 ((-9223372036854775808) - a1))))) (by kernel_rfl) (by kernel_rfl) hc6 ?_
        refine J.seq (by kernel_rfl) ?_
        refine J.region (by kernel_rfl) ?_
        refine O.pure 2 [] [4, 5] [] (fr' := [(4, .int .i64 0), (5, .bool false)]) (bx' := []) (by kernel_rfl) ?_
        refine O.nil (by kernel_rfl) ?_
        obtain rfl := Option.some.inj H
        exact J.doneS [] [] [] [] [] () (vs := [.int .i64 0, .bool false]) (by kernel_rfl) (by kernel_rfl) (by kernel_rfl) (by kernel_rfl) (by kernel_rfl) (by decide)
      · refine J.condF (x := .tmp 23) (t := (decide (a0 < (IntKind.wrap .i64 ((-9223372036854775808) - a1))))) (by kernel_rfl) (by kernel_rfl) hc6 ?_
        refine J.skip (by kernel_rfl) ?_
        refine J.seq (by kernel_rfl) ?_
        refine J.region (by kernel_rfl) ?_
        refine O.pure 5 [] [4, 5] [] (fr' := [(4, .int .i64 (IntKind.wrap .i64 (a0 + a1))), (5, .bool true)]) (bx' := []) (by kernel_rfl) ?_
        refine O.nil (by kernel_rfl) ?_
        obtain rfl := Option.some.inj H
        exact J.doneS [] [] [] [] [] () (vs := [.int .i64 (IntKind.wrap .i64 (a0 + a1)), .bool true]) (by kernel_rfl) (by kernel_rfl) (by kernel_rfl) (by kernel_rfl) (by kernel_rfl) (by decide)
    · refine J.region (by kernel_rfl) ?_
      refine O.pure 1 [] [0, 1, 6] [] (fr' := [(0, .int .i64 a0), (1, .int .i64 a1), (6, .int .i64 a1)]) (bx' := []) (by kernel_rfl) ?_
      refine O.q (v := .bool false) (some 7) (Qu.eqv (u := .bool (decide (a1 > 0))) (v := .bool false) (0, 0) [] (by kernel_rfl) (congrArg Value.bool hc1)) (by kernel_rfl) ?_
      refine O.pure 8 [] [0, 1, 14, 15] [] (fr' := [(0, .int .i64 a0), (1, .int .i64 a1), (14, .bool false), (15, .int .i64 a1)]) (bx' := []) (by kernel_rfl) ?_
      refine O.q (v := .bool false) (some 16) (Qu.eqv (u := .bool (decide (a1 < 0))) (v := .bool false) (0, 0) [] (by kernel_rfl) (congrArg Value.bool hc5)) (by kernel_rfl) ?_
      refine O.pure 7 [] [0, 1, 23] [] (fr' := [(0, .int .i64 a0), (1, .int .i64 a1), (23, .bool false)]) (bx' := []) (by kernel_rfl) ?_
      refine O.nil (by kernel_rfl) ?_
      refine J.cond (o := .tmp 23) false (by kernel_rfl) (by kernel_rfl) ?_
      refine J.skip (by kernel_rfl) ?_
      refine J.seq (by kernel_rfl) ?_
      refine J.region (by kernel_rfl) ?_
      refine O.pure 5 [] [4, 5] [] (fr' := [(4, .int .i64 (IntKind.wrap .i64 (a0 + a1))), (5, .bool true)]) (bx' := []) (by kernel_rfl) ?_
      refine O.nil (by kernel_rfl) ?_
      obtain rfl := Option.some.inj H
      exact J.doneS [] [] [] [] [] () (vs := [.int .i64 (IntKind.wrap .i64 (a0 + a1)), .bool true]) (by kernel_rfl) (by kernel_rfl) (by kernel_rfl) (by kernel_rfl) (by kernel_rfl) (by decide)
/-! ### haywain/haywainref04.Fold: function 27 -/
def haywainref04_Fold.f (K : Nat) (a0 : Int) (a1 : Int) (a2 : Int) : Option (Int × Int) := cond (decide (a0 < 1)) (some ((0, 1))) (cond (decide (a0 > 5)) (some ((0, 1))) (cond (a0 == 5) ((haywainref01_Add.f K a1 a2).bind fun x4_2 => cond (!x4_2.2) (some ((0, 8))) (some ((x4_2.1, 0)))) (cond (a0 == 4) (cond (decide (a1 > a2)) (some ((a1, 0))) (some ((a2, 0)))) (cond (decide (a1 < a2)) (some ((a1, 0))) (some ((a2, 0)))))))
set_option maxRecDepth 100000 in
set_option maxHeartbeats 1000000 in
theorem haywainref04_Fold.con (K : Nat) (a0 : Int) (a1 : Int) (a2 : Int) (r : (Int × Int)) (X : Nat → Nat → Prop) (w : World) (hS : St X w [] [] [] [] [] w) (H : haywainref04_Fold.f K a0 a1 a2 = some r) :
    Cn Try.prog 27 [.int .i64 a0, .int .i64 a1, .int .i64 a2] X w [] (fun i : Unit => .tuple #[.int .i64 r.1, .int .i64 r.2]) (fun i => []) (fun i => []) (fun i => []) := by
  refine Cn.of Try.func27 (by kernel_rfl) hS ?_
  unfold haywainref04_Fold.f at H
  refine J.seq (by kernel_rfl) ?_
  refine J.region (by kernel_rfl) ?_
  refine O.pure 2 [] [0, 1, 2] [] (fr' := [(0, .int .i64 a0), (1, .int .i64 a1), (2, .int .i64 a2)]) (bx' := []) (by kernel_rfl) ?_
  refine O.nil (by kernel_rfl) ?_
  refine J.seq (by kernel_rfl) ?_
  refine J.seq (by kernel_rfl) ?_
  rcases condE H with ⟨hc1, H⟩ | ⟨hc1, H⟩
  · refine J.region (by kernel_rfl) ?_
    refine O.pure 1 [] [0, 1, 2, 10] [] (fr' := [(0, .int .i64 a0), (1, .int .i64 a1), (2, .int .i64 a2), (10, .int .i64 a0)]) (bx' := []) (by kernel_rfl) ?_
    refine O.q (v := .bool true) (some 11) (Qu.eqv (u := .bool (decide (a0 < 1))) (v := .bool true) (0, 0) [] (by kernel_rfl) (congrArg Value.bool hc1)) (by kernel_rfl) ?_
    refine O.pure 4 [] [0, 1, 2, 15] [] (fr' := [(0, .int .i64 a0), (1, .int .i64 a1), (2, .int .i64 a2), (15, .bool true)]) (bx' := []) (by kernel_rfl) ?_
    refine O.nil (by kernel_rfl) ?_
    refine J.cond (o := .tmp 15) true (by kernel_rfl) (by kernel_rfl) ?_
    refine J.seq (by kernel_rfl) ?_
    refine J.region (by kernel_rfl) ?_
    refine O.pure 2 [] [6, 7] [] (fr' := [(6, .int .i64 0), (7, .int .i64 1)]) (bx' := []) (by kernel_rfl) ?_
    refine O.nil (by kernel_rfl) ?_
    obtain rfl := Option.some.inj H
    exact J.doneS [] [] [] [] [] () (vs := [.int .i64 0, .int .i64 1]) (by kernel_rfl) (by kernel_rfl) (by kernel_rfl) (by kernel_rfl) (by kernel_rfl) (by decide)
  · refine J.region (by kernel_rfl) ?_
    refine O.pure 1 [] [0, 1, 2, 10] [] (fr' := [(0, .int .i64 a0), (1, .int .i64 a1), (2, .int .i64 a2), (10, .int .i64 a0)]) (bx' := []) (by kernel_rfl) ?_
    refine O.q (v := .bool false) (some 11) (Qu.eqv (u := .bool (decide (a0 < 1))) (v := .bool false) (0, 0) [] (by kernel_rfl) (congrArg Value.bool hc1)) (by kernel_rfl) ?_
    refine O.pure 4 [] [0, 1, 2, 15] [] (fr' := [(0, .int .i64 a0), (1, .int .i64 a1), (2, .int .i64 a2), (15, .bool (decide (a0 > 5)))]) (bx' := []) (by kernel_rfl) ?_
    refine O.nil (by kernel_rfl) ?_
    rcases condE H with ⟨hc2, H⟩ | ⟨hc2, H⟩
    · refine J.condT (x := .tmp 15) (t := (decide (a0 > 5))) (by kernel_rfl) (by kernel_rfl) hc2 ?_
      refine J.seq (by kernel_rfl) ?_
      refine J.region (by kernel_rfl) ?_
      refine O.pure 2 [] [6, 7] [] (fr' := [(6, .int .i64 0), (7, .int .i64 1)]) (bx' := []) (by kernel_rfl) ?_
      refine O.nil (by kernel_rfl) ?_
      obtain rfl := Option.some.inj H
      exact J.doneS [] [] [] [] [] () (vs := [.int .i64 0, .int .i64 1]) (by kernel_rfl) (by kernel_rfl) (by kernel_rfl) (by kernel_rfl) (by kernel_rfl) (by decide)
    · refine J.condF (x := .tmp 15) (t := (decide (a0 > 5))) (by kernel_rfl) (by kernel_rfl) hc2 ?_
      refine J.skip (by kernel_rfl) ?_
      refine J.seq (by kernel_rfl) ?_
      refine J.seq (by kernel_rfl) ?_
      refine J.region (by kernel_rfl) ?_
      refine O.pure 2 [] [0, 1, 2, 17] [] (fr' := [(0, .int .i64 a0), (1, .int .i64 a1), (2, .int .i64 a2), (17, .bool (a0 == 5))]) (bx' := []) (by kernel_rfl) ?_
      refine O.nil (by kernel_rfl) ?_
      rcases condE H with ⟨hc3, H⟩ | ⟨hc3, H⟩
      · refine J.condT (x := .tmp 17) (t := (a0 == 5)) (by kernel_rfl) (by kernel_rfl) hc3 ?_
        refine J.seq (by kernel_rfl) ?_
        obtain ⟨x4_2, hx4_2, H⟩ := bindE H
        refine J.region (by kernel_rfl) ?_
        refine O.pure 2 [] [19, 20] [] (fr' := [(19, .int .i64 a1), (20, .int .i64 a2)]) (bx' := []) (by kernel_rfl) ?_
        refine O.e (some 21) (Ev.call0 (xs := [.tmp 19, .tmp 20]) [] (by kernel_rfl) (by kernel_rfl) (fun w hS => haywainref01_Add.con K a1 a2  _ _ w hS hx4_2)) (by kernel_rfl) (fun _ => ?_)
        refine O.pure 5 [] [8, 9] [] (fr' := [(8, .int .i64 x4_2.1), (9, .bool x4_2.2)]) (bx' := []) (by kernel_rfl) ?_
        refine O.nil (by kernel_rfl) ?_
        refine J.seq (by kernel_rfl) ?_
        refine J.seq (by kernel_rfl) ?_
        refine J.region (by kernel_rfl) ?_
        refine O.pure 2 [] [8, 25] [] (fr' := [(8, .int .i64 x4_2.1), (25, .bool (!x4_2.2))]) (bx' := []) (by kernel_rfl) ?_
        refine O.nil (by kernel_rfl) ?_
        rcases condE H with ⟨hc4, H⟩ | ⟨hc4, H⟩
        · refine J.condT (x := .tmp 25) (t := (!x4_2.2)) (by kernel_rfl) (by kernel_rfl) hc4 ?_
          refine J.seq (by kernel_rfl) ?_
          refine J.region (by kernel_rfl) ?_
          refine O.pure 2 [] [6, 7] [] (fr' := [(6, .int .i64 0), (7, .int .i64 8)]) (bx' := []) (by kernel_rfl) ?_
          refine O.nil (by kernel_rfl) ?_
          obtain rfl := Option.some.inj H
          exact J.doneS [] [] [] [] [] () (vs := [.int .i64 0, .int .i64 8]) (by kernel_rfl) (by kernel_rfl) (by kernel_rfl) (by kernel_rfl) (by kernel_rfl) (by decide)
        · refine J.condF (x := .tmp 25) (t := (!x4_2.2)) (by kernel_rfl) (by kernel_rfl) hc4 ?_
          refine J.skip (by kernel_rfl) ?_
          refine J.seq (by kernel_rfl) ?_
          refine J.region (by kernel_rfl) ?_
          refine O.pure 3 [] [6, 7] [] (fr' := [(6, .int .i64 x4_2.1), (7, .int .i64 0)]) (bx' := []) (by kernel_rfl) ?_
          refine O.nil (by kernel_rfl) ?_
          obtain rfl := Option.some.inj H
          exact J.doneS [] [] [] [] [] () (vs := [.int .i64 x4_2.1, .int .i64 0]) (by kernel_rfl) (by kernel_rfl) (by kernel_rfl) (by kernel_rfl) (by kernel_rfl) (by decide)
      · refine J.condF (x := .tmp 17) (t := (a0 == 5)) (by kernel_rfl) (by kernel_rfl) hc3 ?_
        refine J.skip (by kernel_rfl) ?_
        refine J.seq (by kernel_rfl) ?_
        refine J.seq (by kernel_rfl) ?_
        refine J.region (by kernel_rfl) ?_
        refine O.pure 2 [] [1, 2, 28] [] (fr' := [(1, .int .i64 a1), (2, .int .i64 a2), (28, .bool (a0 == 4))]) (bx' := []) (by kernel_rfl) ?_
        refine O.nil (by kernel_rfl) ?_
        rcases condE H with ⟨hc5, H⟩ | ⟨hc5, H⟩
        · refine J.condT (x := .tmp 28) (t := (a0 == 4)) (by kernel_rfl) (by kernel_rfl) hc5 ?_
          refine J.seq (by kernel_rfl) ?_
          refine J.seq (by kernel_rfl) ?_
          refine J.region (by kernel_rfl) ?_
          refine O.pure 3 [] [1, 2, 31] [] (fr' := [(1, .int .i64 a1), (2, .int .i64 a2), (31, .bool (decide (a1 > a2)))]) (bx' := []) (by kernel_rfl) ?_
          refine O.nil (by kernel_rfl) ?_
          rcases condE H with ⟨hc6, H⟩ | ⟨hc6, H⟩
          · refine J.condT (x := .tmp 31) (t := (decide (a1 > a2))) (by kernel_rfl) (by kernel_rfl) hc6 ?_
            refine J.seq (by kernel_rfl) ?_
            refine J.region (by kernel_rfl) ?_
            refine O.pure 3 [] [6, 7] [] (fr' := [(6, .int .i64 a1), (7, .int .i64 0)]) (bx' := []) (by kernel_rfl) ?_
            refine O.nil (by kernel_rfl) ?_
            obtain rfl := Option.some.inj H
            exact J.doneS [] [] [] [] [] () (vs := [.int .i64 a1, .int .i64 0]) (by kernel_rfl) (by kernel_rfl) (by kernel_rfl) (by kernel_rfl) (by kernel_rfl) (by decide)
          · refine J.condF (x := .tmp 31) (t := (decide (a1 > a2))) (by kernel_rfl) (by kernel_rfl) hc6 ?_
            refine J.skip (by kernel_rfl) ?_
            refine J.seq (by kernel_rfl) ?_
            refine J.region (by kernel_rfl) ?_
            refine O.pure 3 [] [6, 7] [] (fr' := [(6, .int .i64 a2), (7, .int .i64 0)]) (bx' := []) (by kernel_rfl) ?_
            refine O.nil (by kernel_rfl) ?_
            obtain rfl := Option.some.inj H
            exact J.doneS [] [] [] [] [] () (vs := [.int .i64 a2, .int .i64 0]) (by kernel_rfl) (by kernel_rfl) (by kernel_rfl) (by kernel_rfl) (by kernel_rfl) (by decide)
        · refine J.condF (x := .tmp 28) (t := (a0 == 4)) (by kernel_rfl) (by kernel_rfl) hc5 ?_
          refine J.skip (by kernel_rfl) ?_
          refine J.seq (by kernel_rfl) ?_
          refine J.seq (by kernel_rfl) ?_
          refine J.region (by kernel_rfl) ?_
          refine O.pure 3 [] [1, 2, 36] [] (fr' := [(1, .int .i64 a1), (2, .int .i64 a2), (36, .bool (decide (a1 < a2)))]) (bx' := []) (by kernel_rfl) ?_
          refine O.nil (by kernel_rfl) ?_
          rcases condE H with ⟨hc7, H⟩ | ⟨hc7, H⟩
          · refine J.condT (x := .tmp 36) (t := (decide (a1 < a2))) (by kernel_rfl) (by kernel_rfl) hc7 ?_
            refine J.seq (by kernel_rfl) ?_
            refine J.region (by kernel_rfl) ?_
            refine O.pure 3 [] [6, 7] [] (fr' := [(6, .int .i64 a1), (7, .int .i64 0)]) (bx' := []) (by kernel_rfl) ?_
            refine O.nil (by kernel_rfl) ?_
            obtain rfl := Option.some.inj H
            exact J.doneS [] [] [] [] [] () (vs := [.int .i64 a1, .int .i64 0]) (by kernel_rfl) (by kernel_rfl) (by kernel_rfl) (by kernel_rfl) (by kernel_rfl) (by decide)
          · refine J.condF (x := .tmp 36) (t := (decide (a1 < a2))) (by kernel_rfl) (by kernel_rfl) hc7 ?_
            refine J.skip (by kernel_rfl) ?_
            refine J.seq (by kernel_rfl) ?_
            refine J.region (by kernel_rfl) ?_
            refine O.pure 3 [] [6, 7] [] (fr' := [(6, .int .i64 a2), (7, .int .i64 0)]) (bx' := []) (by kernel_rfl) ?_
            refine O.nil (by kernel_rfl) ?_
            obtain rfl := Option.some.inj H
            exact J.doneS [] [] [] [] [] () (vs := [.int .i64 a2, .int .i64 0]) (by kernel_rfl) (by kernel_rfl) (by kernel_rfl) (by kernel_rfl) (by kernel_rfl) (by decide)
/-! ### haywain/haywainref05.Fold: function 19 -/
def haywainref05_Fold.l126 (K : Nat) (a0 : Int) (x3_1 : List S40) (x7_2 : S40) : Nat → (Int × Int) → Option ((Int × Int) ⊕ (((List S40) × Int) ⊕ ((List S40) × Int)))
  | 0, _ => none
  | k + 1, s126 => cond (decide (s126.1 < (x3_1.length : Int))) ((idxO x3_1 s126.1).bind fun x9_7 => cond (x9_7.f0 == x7_2.f0) ((idxO x3_1 s126.1).bind fun x10_5 => (haywainref04_Fold.f K a0 s126.2 x10_5.f1).bind fun x10_8 => cond (x10_8.2 != 0) (some (.inr (.inr ((([] : List S40), x10_8.2))))) (haywainref05_Fold.l126 K a0 x3_1 x7_2 k ((IntKind.wrap .i64 (s126.1 + 1)), x10_8.1))) (some (.inl (s126.1, s126.2)))) (some (.inl (s126.1, s126.2)))
def haywainref05_Fold.l3 (K : Nat) (a0 : Int) (x3_1 : List S40) : Nat → ((List S40) × Int) → Option ((List S40) × Int)
  | 0, _ => none
  | k + 1, s3 => cond (decide (s3.2 < (x3_1.length : Int))) (((idxO x3_1 s3.2).bind fun x7_2 => (haywainref05_Fold.l126 K a0 x3_1 x7_2 K ((IntKind.wrap .i64 (s3.2 + 1)), x7_2.f1) : Option ((Int × Int) ⊕ (((List S40) × Int) ⊕ ((List S40) × Int)))).bind (Sum.elim (fun o115 : Int × Int => (appO 16 s3.1 ([(⟨x7_2.f0, o115.2⟩ : S40)] : List S40)).bind fun y15_3 => some (.inl ((s3.1 ++ ([(⟨x7_2.f0, o115.2⟩ : S40)] : List S40)), o115.1))) some) : Option (((List S40) × Int) ⊕ ((List S40) × Int))).bind (Sum.elim (fun o93 : (List S40) × Int => haywainref05_Fold.l3 K a0 x3_1 k (o93.1, o93.2)) some)) (some ((s3.1, 0)))
def haywainref05_Fold.f (K : Nat) (a0 : Int) (a1 : List S40) : Option ((List S40) × Int) := cond (decide (a0 < 1)) (some ((([] : List S40), 1))) (cond (decide (a0 > 5)) (some ((([] : List S40), 1))) ((haywainref05_Sort.f K a1).bind fun x3_1 => haywainref05_Fold.l3 K a0 x3_1 K (([] : List S40), 0)))
set_option maxRecDepth 100000 in
set_option maxHeartbeats 1000000 in
theorem haywainref05_Fold.con (K : Nat) (a0 : Int) (a1 : List S40) (h0 : Hd) (r : ((List S40) × Int)) (X : Nat → Nat → Prop) (w : World) (hS : St X w [] [] [] [] [Rd kd40 h0.1 h0.2 a1] w) (H : haywainref05_Fold.f K a0 a1 = some r) :
    Cn Try.prog 19 [.int .i64 a0, .slice h0.1 a1.length h0.2] X w [] (fun i : Hd => .tuple #[.slice i.1 r.1.length i.2, .int .i64 r.2]) (fun i => []) (fun i => [mkRow kd40 40 (.slice i.1 r.1.length i.2) r.1]) (fun i => []) := by
  refine Cn.of Try.func19 (by kernel_rfl) hS ?_
  unfold haywainref05_Fold.f at H
  refine J.seq (by kernel_rfl) ?_
  refine J.region (by kernel_rfl) ?_
  refine O.pure 2 [] [0, 1] [] (fr' := [(0, .int .i64 a0), (1, .slice h0.1 a1.length h0.2)]) (bx' := []) (by kernel_rfl) ?_
  refine O.nil (by kernel_rfl) ?_
  refine J.seq (by kernel_rfl) ?_
  refine J.seq (by kernel_rfl) ?_
  rcases condE H with ⟨hc1, H⟩ | ⟨hc1, H⟩
  · refine J.region (by kernel_rfl) ?_
    refine O.pure 1 [] [0, 1, 12] [] (fr' := [(0, .int .i64 a0), (1, .slice h0.1 a1.length h0.2), (12, .int .i64 a0)]) (bx' := []) (by kernel_rfl) ?_
    refine O.q (v := .bool true) (some 13) (Qu.eqv (u := .bool (decide (a0 < 1))) (v := .bool true) (0, 0) [] (by kernel_rfl) (congrArg Value.bool hc1)) (by kernel_rfl) ?_
    refine O.pure 4 [] [0, 1, 17] [] (fr' := [(0, .int .i64 a0), (1, .slice h0.1 a1.length h0.2), (17, .bool true)]) (bx' := []) (by kernel_rfl) ?_
    refine O.nil (by kernel_rfl) ?_
    refine J.cond (o := .tmp 17) true (by kernel_rfl) (by kernel_rfl) ?_
    refine J.seq (by kernel_rfl) ?_
    refine J.region (by kernel_rfl) ?_
    refine O.pure 2 [] [4, 5] [] (fr' := [(4, .slice none 0 0), (5, .int .i64 1)]) (bx' := []) (by kernel_rfl) ?_
    refine O.nil (by kernel_rfl) ?_
    obtain rfl := Option.some.inj H
    refine J.nilrow kd40 40 ?_
    exact J.doneS [] [] [] [] [0] (none, 0) (vs := [.slice none 0 0, .int .i64 1]) (by kernel_rfl) (by kernel_rfl) (by kernel_rfl) (by kernel_rfl) (by kernel_rfl) (by decide)
  · refine J.region (by kernel_rfl) ?_
    refine O.pure 1 [] [0, 1, 12] [] (fr' := [(0, .int .i64 a0), (1, .slice h0.1 a1.length h0.2), (12, .int .i64 a0)]) (bx' := []) (by kernel_rfl) ?_
    refine O.q (v := .bool false) (some 13) (Qu.eqv (u := .bool (decide (a0 < 1))) (v := .bool false) (0, 0) [] (by kernel_rfl) (congrArg Value.bool hc1)) (by kernel_rfl) ?_
    refine O.pure 4 [] [0, 1, 17] [] (fr' := [(0, .int .i64 a0), (1, .slice h0.1 a1.length h0.2), (17, .bool (decide (a0 > 5)))]) (bx' := []) (by kernel_rfl) ?_
    refine O.nil (by kernel_rfl) ?_
    rcases condE H with ⟨hc2, H⟩ | ⟨hc2, H⟩
    · refine J.condT (x := .tmp 17) (t := (decide (a0 > 5))) (by kernel_rfl) (by kernel_rfl) hc2 ?_
      refine J.seq (by kernel_rfl) ?_
      refine J.region (by kernel_rfl) ?_
      refine O.pure 2 [] [4, 5] [] (fr' := [(4, .slice none 0 0), (5, .int .i64 1)]) (bx' := []) (by kernel_rfl) ?_
      refine O.nil (by kernel_rfl) ?_
      obtain rfl := Option.some.inj H
      refine J.nilrow kd40 40 ?_
      exact J.doneS [] [] [] [] [0] (none, 0) (vs := [.slice none 0 0, .int .i64 1]) (by kernel_rfl) (by kernel_rfl) (by kernel_rfl) (by kernel_rfl) (by kernel_rfl) (by decide)
    · refine J.condF (x := .tmp 17) (t := (decide (a0 > 5))) (by kernel_rfl) (by kernel_rfl) hc2 ?_
      refine J.skip (by kernel_rfl) ?_
      refine J.seq (by kernel_rfl) ?_
      obtain ⟨x3_1, hx3_1, H⟩ := bindE H
      refine J.region (by kernel_rfl) ?_
      refine O.pure 1 [] [0, 18] [] (fr' := [(0, .int .i64 a0), (18, .slice h0.1 a1.length h0.2)]) (bx' := []) (by kernel_rfl) ?_
      refine O.e (some 19) (Ev.call0 (xs := [.tmp 18]) [0] (by kernel_rfl) (by kernel_rfl) (fun w hS => haywainref05_Sort.con K a1 h0  _ _ w hS hx3_1)) (by kernel_rfl) (fun p3_1 => ?_)
      refine O.pure 1 [] [0, 6] [] (fr' := [(0, .int .i64 a0), (6, .slice p3_1.1 x3_1.length p3_1.2)]) (bx' := []) (by kernel_rfl) ?_
      refine O.nil (by kernel_rfl) ?_
      refine J.seq (by kernel_rfl) ?_
      refine J.region (by kernel_rfl) ?_
      refine O.pure 1 [] [0, 6, 7] [] (fr' := [(0, .int .i64 a0), (6, .slice p3_1.1 x3_1.length p3_1.2), (7, .slice none 0 0)]) (bx' := []) (by kernel_rfl) ?_
      refine O.nil (by kernel_rfl) ?_
      refine J.seq (by kernel_rfl) ?_
      refine J.seq (by kernel_rfl) ?_
      refine J.region (by kernel_rfl) ?_
      refine O.pure 1 [] [0, 6, 7, 8] [] (fr' := [(0, .int .i64 a0), (6, .slice p3_1.1 x3_1.length p3_1.2), (7, .slice none 0 0), (8, .int .i64 0)]) (bx' := []) (by kernel_rfl) ?_
      refine O.nil (by kernel_rfl) ?_
      refine J.block (id := 0) (by kernel_rfl) ?_
      refine J.loopI (σ := (List S40) × Int) (γ := Hd) (f := fun m_ s_ => haywainref05_Fold.l3 K a0 x3_1 m_ s_) (fun s3 g3 => [(0, .int .i64 a0), (6, .slice p3_1.1 x3_1.length p3_1.2), (7, .slice g3.1 s3.1.length g3.2), (8, .int .i64 s3.2)]) (fun s3 g3 => St X w [] [] [mkRow kd40 40 (.slice g3.1 s3.1.length g3.2) s3.1] [] [Rd kd40 h0.1 h0.2 a1, Rd kd40 p3_1.1 p3_1.2 x3_1]) K (([] : List S40), 0) (none, 0) (by kernel_rfl) H (fun _ => rfl) (fun m_ s3 H ih3 g3 => ?_) (fun h_ => ?_)
      · unfold haywainref05_Fold.l3 at H
        refine J.seq (by kernel_rfl) ?_
        refine J.seq (by kernel_rfl) ?_
        refine J.region (by kernel_rfl) ?_
        refine O.pure 4 [] [0, 6, 7, 8, 23] [] (fr' := [(0, .int .i64 a0), (6, .slice p3_1.1 x3_1.length p3_1.2), (7, .slice g3.1 s3.1.length g3.2), (8, .int .i64 s3.2), (23, .bool (decide (s3.2 < (x3_1.length : Int))))]) (bx' := []) (by kernel_rfl) ?_
        refine O.nil (by kernel_rfl) ?_
        rcases condE H with ⟨hc92, H⟩ | ⟨hc92, H⟩
        · refine J.condT (x := .tmp 23) (t := (decide (s3.2 < (x3_1.length : Int)))) (by kernel_rfl) (by kernel_rfl) hc92 ?_
          refine J.skip (by kernel_rfl) ?_
          refine J.joinS (α := (List S40) × Int) (γ := Hd) (fun o93 q93 => [(0, .int .i64 a0), (6, .slice p3_1.1 x3_1.length p3_1.2), (7, .slice q93.1 o93.1.length q93.2), (8, .int .i64 o93.2)]) (fun o93 q93 => St X w [] [] [mkRow kd40 40 (.slice q93.1 o93.1.length q93.2) o93.1] [] [Rd kd40 h0.1 h0.2 a1, Rd kd40 p3_1.1 p3_1.2 x3_1]) H (fun o93 q93 H => ?_) (fun o93 H hj93 => ?_)
          · exact J.conv2 [0, 6, 7, 8] [0, 1] [] [0] (by kernel_rfl) (by kernel_rfl) (by kernel_rfl) (by kernel_rfl) (by decide) (ih3 (o93.1, o93.2) q93 H)
          · refine J.block (id := 1) (by kernel_rfl) ?_
            refine J.seq (by kernel_rfl) ?_
            obtain ⟨x7_2, hx7_2, H⟩ := bindE H
            obtain ⟨hx7_2a, hx7_2⟩ := idxE hx7_2
            refine J.region (by kernel_rfl) ?_
            refine O.pure 2 [] [0, 6, 7, 8, 24, 25] [] (fr' := [(0, .int .i64 a0), (6, .slice p3_1.1 x3_1.length p3_1.2), (7, .slice g3.1 s3.1.length g3.2), (8, .int .i64 s3.2), (24, .slice p3_1.1 x3_1.length p3_1.2), (25, .int .i64 s3.2)]) (bx' := []) (by kernel_rfl) ?_
            refine O.open (d := kd40) (h := p3_1) (i := s3.2) 1 rfl hx7_2 (op40 _) (fun p7_2 hp7_2A => ?_)
            refine O.q (v := .pointer (some ⟨p7_2.1, p7_2.2.1 + s3.2.toNat * 2, none⟩)) (some 26) (Qu.idx (t := 22) (x := .tmp 24) (y := .tmp 25) (c := p3_1.2) (kk := .i64) (sz := 2) (by kernel_rfl) (by kernel_rfl) (by kernel_rfl) (by kernel_rfl) hx7_2a (idx_lt hx7_2) hp7_2A) (by kernel_rfl) ?_
            refine O.pure 1 [(0, 0)] [0, 6, 7, 8, 27] [p7_2.1, p7_2.2.1 + s3.2.toNat * 2] (fr' := [(0, .int .i64 a0), (6, .slice p3_1.1 x3_1.length p3_1.2), (7, .slice g3.1 s3.1.length g3.2), (8, .int .i64 s3.2), (27, .agg #[.int .i64 x7_2.f0, .int .i64 x7_2.f1])]) (bx' := []) (by kernel_rfl) ?_
            refine O.e (some 9) (Ev.alloc (t := 40) (z := .agg #[.int .i64 0, .int .i64 0]) (by kernel_rfl) (by kernel_rfl)) (by kernel_rfl) (fun p7_4 => ?_)
            refine O.pure 1 [(0, 0)] [0, 6, 7, 8, 9] [p7_4, 0] (fr' := [(0, .int .i64 a0), (6, .slice p3_1.1 x3_1.length p3_1.2), (7, .slice g3.1 s3.1.length g3.2), (8, .int .i64 s3.2), (9, .pointer (some ⟨p7_4, 0, none⟩))]) (bx' := [⟨p7_4, [.int .i64 x7_2.f0, .int .i64 x7_2.f1], 40⟩]) (by kernel_rfl) ?_
            refine O.nil (by kernel_rfl) ?_
            refine J.seq (by kernel_rfl) ?_
            refine J.region (by kernel_rfl) ?_
            refine O.pure 3 [] [0, 6, 7, 8, 9] [] (fr' := [(0, .int .i64 a0), (6, .slice p3_1.1 x3_1.length p3_1.2), (7, .slice g3.1 s3.1.length g3.2), (8, .int .i64 (IntKind.wrap .i64 (s3.2 + 1))), (9, .pointer (some ⟨p7_4, 0, none⟩))]) (bx' := [⟨p7_4, [.int .i64 x7_2.f0, .int .i64 x7_2.f1], 40⟩]) (by kernel_rfl) ?_
            refine O.nil (by kernel_rfl) ?_
            refine J.seq (by kernel_rfl) ?_
            refine J.joinS (α := Int × Int) (γ := Unit) (fun o115 q115 => [(0, .int .i64 a0), (6, .slice p3_1.1 x3_1.length p3_1.2), (7, .slice g3.1 s3.1.length g3.2), (8, .int .i64 o115.1), (9, .pointer (some ⟨p7_4, 0, none⟩))]) (fun o115 q115 => St X w [] [⟨p7_4, [.int .i64 x7_2.f0, .int .i64 o115.2], 40⟩] [mkRow kd40 40 (.slice g3.1 s3.1.length g3.2) s3.1] [] [Rd kd40 h0.1 h0.2 a1, Rd kd40 p3_1.1 p3_1.2 x3_1]) H (fun o115 q115 H => ?_) (fun o115 H hj115 => ?_)
            · obtain ⟨y15_3, hy15_3, H⟩ := bindE H
              have hy15_3a := (appE hy15_3).1
              refine J.region (by kernel_rfl) ?_
              refine O.pure 2 [(0, 0)] [0, 6, 7, 8, 63, 64] [p7_4, 0] (fr' := [(0, .int .i64 a0), (6, .slice p3_1.1 x3_1.length p3_1.2), (7, .slice g3.1 s3.1.length g3.2), (8, .int .i64 o115.1), (63, .slice g3.1 s3.1.length g3.2), (64, .agg #[.int .i64 x7_2.f0, .int .i64 o115.2])]) (bx' := [⟨p7_4, [.int .i64 x7_2.f0, .int .i64 o115.2], 40⟩]) (by kernel_rfl) ?_
              refine O.e (some 65) (Ev.lit (t := 22) (len := 1) (parts := #[(0, .tmp 64)]) (ps := [(0, .agg #[.int .i64 x7_2.f0, .int .i64 o115.2])]) (cs := [.int .i64 x7_2.f0, .int .i64 o115.2]) (e := 40) kd40 ([(⟨x7_2.f0, o115.2⟩ : S40)] : List S40) (by kernel_rfl) (by kernel_rfl) (by kernel_rfl) (by kernel_rfl) (by kernel_rfl) (by decide) (fun w' hφ => (Els.cons (c := [.int .i64 x7_2.f0, .int .i64 o115.2]) (rfl) (Els.nil _ _ _)))) (by kernel_rfl) (fun p15_2 => ?_)
              refine O.e (some 66) (Ev.appLit (x := .tmp 63) (y := .tmp 65) (t := 22) (bytes := 16) (by kernel_rfl) (by kernel_rfl) (by kernel_rfl) (by kernel_rfl) (by kernel_rfl) (by decide) hy15_3a) (by kernel_rfl) (fun p15_3 => ?_)
              refine O.pure 1 [] [0, 6, 7, 8] [] (fr' := [(0, .int .i64 a0), (6, .slice p3_1.1 x3_1.length p3_1.2), (7, .slice p15_3.1 (s3.1 ++ ([(⟨x7_2.f0, o115.2⟩ : S40)] : List S40)).length p15_3.2), (8, .int .i64 o115.1)]) (bx' := [⟨p7_4, [.int .i64 x7_2.f0, .int .i64 o115.2], 40⟩]) (by kernel_rfl) ?_
              refine O.nil (by kernel_rfl) ?_
              refine J.out ?_
              obtain rfl := Option.some.inj H
              exact J.conv2 [0, 6, 7, 8] [0, 1] [] [0] (by kernel_rfl) (by kernel_rfl) (by kernel_rfl) (by kernel_rfl) (by decide) (hj93.1 _ rfl p15_3)
            · refine J.block (id := 2) (by kernel_rfl) ?_
              refine J.loopI (σ := Int × Int) (γ := Unit) (f := fun m_ s_ => haywainref05_Fold.l126 K a0 x3_1 x7_2 m_ s_) (fun s126 g126 => [(0, .int .i64 a0), (6, .slice p3_1.1 x3_1.length p3_1.2), (7, .slice g3.1 s3.1.length g3.2), (8, .int .i64 s126.1), (9, .pointer (some ⟨p7_4, 0, none⟩))]) (fun s126 g126 => St X w [] [⟨p7_4, [.int .i64 x7_2.f0, .int .i64 s126.2], 40⟩] [mkRow kd40 40 (.slice g3.1 s3.1.length g3.2) s3.1] [] [Rd kd40 h0.1 h0.2 a1, Rd kd40 p3_1.1 p3_1.2 x3_1]) K ((IntKind.wrap .i64 (s3.2 + 1)), x7_2.f1) () (by kernel_rfl) H (fun _ => rfl) (fun m_ s126 H ih126 g126 => ?_) (fun h_ => ?_)
              · unfold haywainref05_Fold.l126 at H
                refine J.seq (by kernel_rfl) ?_
                refine J.seq (by kernel_rfl) ?_
                rcases condE H with ⟨hc133, H⟩ | ⟨hc133, H⟩
                · obtain ⟨x9_7, hx9_7, H⟩ := bindE H
                  obtain ⟨hx9_7a, hx9_7⟩ := idxE hx9_7
                  refine J.open (d := kd40) (h := p3_1) (i := s126.1) 1 rfl hx9_7 (op40 _) (fun p9_7 hp9_7A => ?_)
                  refine J.drawS (by kernel_rfl) [(0, some 30, .int .i64 s126.1), (1, some 31, .slice p3_1.1 x3_1.length p3_1.2), (2, some 32, .int .i64 (x3_1.length : Int)), (4, some 34, .bool true), (5, some 35, .slice p3_1.1 x3_1.length p3_1.2), (6, some 36, .int .i64 s126.1), (8, some 38, .pointer (some ⟨p9_7.1, p9_7.2.1 + s126.1.toNat * 2, none⟩)), (9, some 39, .int .i64 x9_7.f0), (10, some 40, .pointer (some ⟨p7_4, 0, none⟩)), (11, some 41, .int .i64 x7_2.f0), (12, some 42, .bool (x9_7.f0 == x7_2.f0)), (13, some 43, .bool (x9_7.f0 == x7_2.f0)), (3, some 33, .bool true), (7, some 37, .pointer (some ⟨p9_7.1, p9_7.2.1 + s126.1.toNat * 2, none⟩))] ([0, 1, 2, 4, 5, 6, 8, 9, 10, 11, 12, 13] ++ [3, 7]) (by kernel_rfl) ?_
                  refine D.fin (fr' := [(0, .int .i64 a0), (6, .slice p3_1.1 x3_1.length p3_1.2), (7, .slice g3.1 s3.1.length g3.2), (8, .int .i64 s126.1), (9, .pointer (some ⟨p7_4, 0, none⟩)), (35, .slice p3_1.1 x3_1.length p3_1.2), (36, .int .i64 s126.1), (37, .pointer (some ⟨p9_7.1, p9_7.2.1 + s126.1.toNat * 2, none⟩)), (38, .pointer (some ⟨p9_7.1, p9_7.2.1 + s126.1.toNat * 2, none⟩)), (39, .int .i64 x9_7.f0), (40, .pointer (some ⟨p7_4, 0, none⟩)), (41, .int .i64 x7_2.f0), (42, .bool (x9_7.f0 == x7_2.f0)), (43, .bool (x9_7.f0 == x7_2.f0))]) [0, 1, 2, 4, 5, 6, 8, 9, 10, 11, 12, 13] [3, 7] [(1, 0), (0, 0)] [p9_7.1, p9_7.2.1 + s126.1.toNat * 2, p7_4, 0] [0, 6, 7, 8, 9, 35, 36, 37, 38, 39, 40, 41, 42, 43] (by kernel_rfl) (by kernel_rfl) (⟨QuAt.mk (v := .bool true) (some 33) (by kernel_rfl) (by kernel_rfl) (Qu.eqv (u := .bool (decide (s126.1 < (x3_1.length : Int)))) (v := .bool true) (0, 0) [] (by kernel_rfl) (congrArg Value.bool hc133)), QuAt.mk (v := .pointer (some ⟨p9_7.1, p9_7.2.1 + s126.1.toNat * 2, none⟩)) (some 37) (by kernel_rfl) (by kernel_rfl) (Qu.idx (t := 22) (x := .tmp 35) (y := .tmp 36) (c := p3_1.2) (kk := .i64) (sz := 2) (by kernel_rfl) (by kernel_rfl) (by kernel_rfl) (by kernel_rfl) hx9_7a (idx_lt hx9_7) hp9_7A), trivial⟩) (by kernel_rfl) ?_
                  rcases condE H with ⟨hc134, H⟩ | ⟨hc134, H⟩
                  · refine J.condT (x := .tmp 43) (t := (x9_7.f0 == x7_2.f0)) (by kernel_rfl) (by kernel_rfl) hc134 ?_
                    refine J.skip (by kernel_rfl) ?_
                    refine J.block (id := 3) (by kernel_rfl) ?_
                    refine J.seq (by kernel_rfl) ?_
                    obtain ⟨x10_5, hx10_5, H⟩ := bindE H
                    obtain ⟨hx10_5a, hx10_5⟩ := idxE hx10_5
                    obtain ⟨x10_8, hx10_8, H⟩ := bindE H
                    refine J.open (d := kd40) (h := p3_1) (i := s126.1) 1 rfl hx10_5 (op40 _) (fun p10_5 hp10_5A => ?_)
                    refine J.drawS (by kernel_rfl) [(0, some 45, .int .i64 a0), (1, some 46, .pointer (some ⟨p7_4, 1, none⟩)), (2, some 47, .int .i64 s126.2), (3, some 48, .slice p3_1.1 x3_1.length p3_1.2), (4, some 49, .int .i64 s126.1), (6, some 51, .pointer (some ⟨p10_5.1, p10_5.2.1 + s126.1.toNat * 2 + 1, none⟩)), (7, some 52, .int .i64 x10_5.f1), (5, some 50, .pointer (some ⟨p10_5.1, p10_5.2.1 + s126.1.toNat * 2, none⟩))] ([0, 1, 2, 3, 4, 6, 7] ++ [5]) (by kernel_rfl) ?_
                    refine D.mid (cs := [8]) [0, 1, 2, 3, 4, 6, 7] [5] [(0, 1), (1, 1)] [p7_4, 1, p10_5.1, p10_5.2.1 + s126.1.toNat * 2 + 1] (by kernel_rfl) (by kernel_rfl) (⟨QuAt.mk (v := .pointer (some ⟨p10_5.1, p10_5.2.1 + s126.1.toNat * 2, none⟩)) (some 50) (by kernel_rfl) (by kernel_rfl) (Qu.idx (t := 22) (x := .tmp 48) (y := .tmp 49) (c := p3_1.2) (kk := .i64) (sz := 2) (by kernel_rfl) (by kernel_rfl) (by kernel_rfl) (by kernel_rfl) hx10_5a (idx_lt hx10_5) hp10_5A), trivial⟩) (by kernel_rfl) ⟨?_, trivial⟩
                    refine EvStep.mk (some 53) (new := fun _ => [(9, some 44, .tuple #[.int .i64 x10_8.1, .int .i64 x10_8.2]), (10, some 54, .int .i64 x10_8.1), (11, some 55, .int .i64 x10_8.2), (12, some 10, .int .i64 x10_8.1), (13, some 11, .int .i64 x10_8.2)]) ([1, 3, 4, 6, 9, 10, 11, 12, 13] ++ [5]) (by kernel_rfl) (Ev.call0 (xs := [.tmp 45, .tmp 47, .tmp 52]) [] (by kernel_rfl) (by kernel_rfl) (fun w hS => haywainref04_Fold.con K a0 s126.2 x10_5.f1  _ _ w hS hx10_8)) (fun _ => by kernel_rfl) (fun _ => ?_)
                    refine D.fin (fr' := [(0, .int .i64 a0), (6, .slice p3_1.1 x3_1.length p3_1.2), (7, .slice g3.1 s3.1.length g3.2), (8, .int .i64 s126.1), (9, .pointer (some ⟨p7_4, 0, none⟩)), (10, .int .i64 x10_8.1), (11, .int .i64 x10_8.2), (35, .slice p3_1.1 x3_1.length p3_1.2), (36, .int .i64 s126.1), (37, .pointer (some ⟨p9_7.1, p9_7.2.1 + s126.1.toNat * 2, none⟩)), (38, .pointer (some ⟨p9_7.1, p9_7.2.1 + s126.1.toNat * 2, none⟩)), (39, .int .i64 x9_7.f0), (40, .pointer (some ⟨p7_4, 0, none⟩)), (41, .int .i64 x7_2.f0), (42, .bool (x9_7.f0 == x7_2.f0))]) [1, 3, 4, 6, 9, 10, 11, 12, 13] [5] [] [] [0, 6, 7, 8, 9, 10, 11, 35, 36, 37, 38, 39, 40, 41, 42] (by kernel_rfl) (by kernel_rfl) (⟨QuAt.mk (v := .pointer (some ⟨p10_5.1, p10_5.2.1 + s126.1.toNat * 2, none⟩)) (some 50) (by kernel_rfl) (by kernel_rfl) (Qu.idx (t := 22) (x := .tmp 48) (y := .tmp 49) (c := p3_1.2) (kk := .i64) (sz := 2) (by kernel_rfl) (by kernel_rfl) (by kernel_rfl) (by kernel_rfl) hx10_5a (idx_lt hx10_5) hp10_5A), trivial⟩) (by kernel_rfl) ?_
                    refine J.seq (by kernel_rfl) ?_
                    refine J.seq (by kernel_rfl) ?_
                    refine J.region (by kernel_rfl) ?_
                    refine O.pure 2 [] [0, 6, 7, 8, 9, 10, 11, 35, 36, 37, 38, 39, 40, 41, 42, 57] [] (fr' := [(0, .int .i64 a0), (6, .slice p3_1.1 x3_1.length p3_1.2), (7, .slice g3.1 s3.1.length g3.2), (8, .int .i64 s126.1), (9, .pointer (some ⟨p7_4, 0, none⟩)), (10, .int .i64 x10_8.1), (11, .int .i64 x10_8.2), (35, .slice p3_1.1 x3_1.length p3_1.2), (36, .int .i64 s126.1), (37, .pointer (some ⟨p9_7.1, p9_7.2.1 + s126.1.toNat * 2, none⟩)), (38, .pointer (some ⟨p9_7.1, p9_7.2.1 + s126.1.toNat * 2, none⟩)), (39, .int .i64 x9_7.f0), (40, .pointer (some ⟨p7_4, 0, none⟩)), (41, .int .i64 x7_2.f0), (42, .bool (x9_7.f0 == x7_2.f0)), (57, .bool (x10_8.2 != 0))]) (bx' := [⟨p7_4, [.int .i64 x7_2.f0, .int .i64 s126.2], 40⟩]) (by kernel_rfl) ?_
                    refine O.nil (by kernel_rfl) ?_
                    rcases condE H with ⟨hc135, H⟩ | ⟨hc135, H⟩
                    · refine J.condT (x := .tmp 57) (t := (x10_8.2 != 0)) (by kernel_rfl) (by kernel_rfl) hc135 ?_
                      refine J.seq (by kernel_rfl) ?_
                      refine J.region (by kernel_rfl) ?_
                      refine O.pure 3 [] [4, 5] [] (fr' := [(4, .slice none 0 0), (5, .int .i64 x10_8.2)]) (bx' := [⟨p7_4, [.int .i64 x7_2.f0, .int .i64 s126.2], 40⟩]) (by kernel_rfl) ?_
                      refine O.nil (by kernel_rfl) ?_
                      obtain rfl := Option.some.inj H
                      obtain rfl := hj115.2 _ rfl
                      obtain rfl := hj93.2 _ rfl
                      refine J.nilrow kd40 40 ?_
                      exact J.doneS [] [] [] [] [0] (none, 0) (vs := [.slice none 0 0, .int .i64 x10_8.2]) (by kernel_rfl) (by kernel_rfl) (by kernel_rfl) (by kernel_rfl) (by kernel_rfl) (by decide)
                    · refine J.condF (x := .tmp 57) (t := (x10_8.2 != 0)) (by kernel_rfl) (by kernel_rfl) hc135 ?_
                      refine J.skip (by kernel_rfl) ?_
                      refine J.seq (by kernel_rfl) ?_
                      refine J.region (by kernel_rfl) ?_
                      refine O.pure 3 [(0, 1)] [0, 6, 7, 8, 9, 35, 36, 37, 38, 39, 40, 41, 42] [p7_4, 1] (fr' := [(0, .int .i64 a0), (6, .slice p3_1.1 x3_1.length p3_1.2), (7, .slice g3.1 s3.1.length g3.2), (8, .int .i64 s126.1), (9, .pointer (some ⟨p7_4, 0, none⟩)), (35, .slice p3_1.1 x3_1.length p3_1.2), (36, .int .i64 s126.1), (37, .pointer (some ⟨p9_7.1, p9_7.2.1 + s126.1.toNat * 2, none⟩)), (38, .pointer (some ⟨p9_7.1, p9_7.2.1 + s126.1.toNat * 2, none⟩)), (39, .int .i64 x9_7.f0), (40, .pointer (some ⟨p7_4, 0, none⟩)), (41, .int .i64 x7_2.f0), (42, .bool (x9_7.f0 == x7_2.f0))]) (bx' := [⟨p7_4, [.int .i64 x7_2.f0, .int .i64 x10_8.1], 40⟩]) (by kernel_rfl) ?_
                      refine O.nil (by kernel_rfl) ?_
                      refine J.region (by kernel_rfl) ?_
                      refine O.pure 3 [] [0, 6, 7, 8, 9, 35, 36, 37, 38, 39, 40, 41, 42] [] (fr' := [(0, .int .i64 a0), (6, .slice p3_1.1 x3_1.length p3_1.2), (7, .slice g3.1 s3.1.length g3.2), (8, .int .i64 (IntKind.wrap .i64 (s126.1 + 1))), (9, .pointer (some ⟨p7_4, 0, none⟩)), (35, .slice p3_1.1 x3_1.length p3_1.2), (36, .int .i64 s126.1), (37, .pointer (some ⟨p9_7.1, p9_7.2.1 + s126.1.toNat * 2, none⟩)), (38, .pointer (some ⟨p9_7.1, p9_7.2.1 + s126.1.toNat * 2, none⟩)), (39, .int .i64 x9_7.f0), (40, .pointer (some ⟨p7_4, 0, none⟩)), (41, .int .i64 x7_2.f0), (42, .bool (x9_7.f0 == x7_2.f0))]) (bx' := [⟨p7_4, [.int .i64 x7_2.f0, .int .i64 x10_8.1], 40⟩]) (by kernel_rfl) ?_
                      refine O.nil (by kernel_rfl) ?_
                      refine J.out ?_
                      exact J.conv2 [0, 6, 7, 8, 9] [0, 1] [0] [0] (by kernel_rfl) (by kernel_rfl) (by kernel_rfl) (by kernel_rfl) (by decide) (ih126 ((IntKind.wrap .i64 (s126.1 + 1)), x10_8.1) () H)
                  · refine J.condF (x := .tmp 43) (t := (x9_7.f0 == x7_2.f0)) (by kernel_rfl) (by kernel_rfl) hc134 ?_
                    refine J.exit (id := 2) (by kernel_rfl) rfl ?_
                    obtain rfl := Option.some.inj H
                    exact J.conv2 [0, 6, 7, 8, 9] [0, 1] [0] [0] (by kernel_rfl) (by kernel_rfl) (by kernel_rfl) (by kernel_rfl) (by decide) (hj115.1 _ rfl ())
                · refine J.drawS (by kernel_rfl) [(0, some 30, .int .i64 s126.1), (1, some 31, .slice p3_1.1 x3_1.length p3_1.2), (2, some 32, .int .i64 (x3_1.length : Int)), (4, some 34, .bool false), (5, some 35, undef), (6, some 36, undef), (7, some 37, undef), (8, some 38, undef), (9, some 39, undef), (10, some 40, undef), (11, some 41, undef), (12, some 42, undef), (13, some 43, .bool false), (3, some 33, .bool false)] ([0, 1, 2, 4, 5, 6, 7, 8, 9, 10, 11, 12, 13] ++ [3]) (by kernel_rfl) ?_
                  refine D.fin (fr' := [(0, .int .i64 a0), (6, .slice p3_1.1 x3_1.length p3_1.2), (7, .slice g3.1 s3.1.length g3.2), (8, .int .i64 s126.1), (9, .pointer (some ⟨p7_4, 0, none⟩)), (35, undef), (36, undef), (37, undef), (38, undef), (39, undef), (40, undef), (41, undef), (42, undef), (43, .bool false)]) [0, 1, 2, 4, 5, 6, 7, 8, 9, 10, 11, 12, 13] [3] [] [] [0, 6, 7, 8, 9, 35, 36, 37, 38, 39, 40, 41, 42, 43] (by kernel_rfl) (by kernel_rfl) (⟨QuAt.mk (v := .bool false) (some 33) (by kernel_rfl) (by kernel_rfl) (Qu.eqv (u := .bool (decide (s126.1 < (x3_1.length : Int)))) (v := .bool false) (0, 0) [] (by kernel_rfl) (congrArg Value.bool hc133)), trivial⟩) (by kernel_rfl) ?_
                  refine J.cond (o := .tmp 43) false (by kernel_rfl) (by kernel_rfl) ?_
                  refine J.exit (id := 2) (by kernel_rfl) rfl ?_
                  obtain rfl := Option.some.inj H
                  exact J.conv2 [0, 6, 7, 8, 9] [0, 1] [0] [0] (by kernel_rfl) (by kernel_rfl) (by kernel_rfl) (by kernel_rfl) (by decide) (hj115.1 _ rfl ())
              · exact J.conv2 [0, 6, 7, 8, 9] [0, 1] [0] [0] (by kernel_rfl) (by kernel_rfl) (by kernel_rfl) (by kernel_rfl) (by decide) h_
        · refine J.condF (x := .tmp 23) (t := (decide (s3.2 < (x3_1.length : Int)))) (by kernel_rfl) (by kernel_rfl) hc92 ?_
          refine J.exit (id := 0) (by kernel_rfl) rfl ?_
          refine J.seq (by kernel_rfl) ?_
          refine J.region (by kernel_rfl) ?_
          refine O.pure 3 [] [4, 5] [] (fr' := [(4, .slice g3.1 s3.1.length g3.2), (5, .int .i64 0)]) (bx' := []) (by kernel_rfl) ?_
          refine O.nil (by kernel_rfl) ?_
          obtain rfl := Option.some.inj H
          exact J.doneS [] [] [] [] [0] g3 (vs := [.slice g3.1 s3.1.length g3.2, .int .i64 0]) (by kernel_rfl) (by kernel_rfl) (by kernel_rfl) (by kernel_rfl) (by kernel_rfl) (by decide)
      · refine J.nilrow kd40 40 ?_
        refine J.mono (fun w hS => hS.rowsel [1, 0] rfl (by decide)) ?_
        refine J.mono (fun w hS => hS.freezeH (h := p3_1) (xs := x3_1)) ?_
        exact J.conv2 [0, 6, 7, 8] [1, 0] [] [0] (by kernel_rfl) (by kernel_rfl) (by kernel_rfl) (by kernel_rfl) (by decide) h_
/-! ### haywain/haywainref05.At: function 21 -/
def haywainref05_At.l1 (K : Nat) (a0 : List S40) (a1 : Int) : Nat → Int → Option (Int × Bool)
  | 0, _ => none
  | k + 1, s1 => cond (decide (s1 < (a0.length : Int))) ((idxO a0 s1).bind fun x4_2 => cond (x4_2.f0 == a1) ((idxO a0 s1).bind fun x5_2 => some ((x5_2.f1, true))) (haywainref05_At.l1 K a0 a1 k (IntKind.wrap .i64 (s1 + 1)))) (some ((0, false)))
def haywainref05_At.f (K : Nat) (a0 : List S40) (a1 : Int) : Option (Int × Bool) := haywainref05_At.l1 K a0 a1 K 0
set_option maxRecDepth 100000 in
set_option maxHeartbeats 1000000 in
theorem haywainref05_At.con (K : Nat) (a0 : List S40) (a1 : Int) (h0 : Hd) (r : (Int × Bool)) (X : Nat → Nat → Prop) (w : World) (hS : St X w [] [] [] [] [Rd kd40 h0.1 h0.2 a0] w) (H : haywainref05_At.f K a0 a1 = some r) :
    Cn Try.prog 21 [.slice h0.1 a0.length h0.2, .int .i64 a1] X w [] (fun i : Unit => .tuple #[.int .i64 r.1, .bool r.2]) (fun i => []) (fun i => []) (fun i => []) := by
  refine Cn.of Try.func21 (by kernel_rfl) hS ?_
  unfold haywainref05_At.f at H
  refine J.seq (by kernel_rfl) ?_
  refine J.region (by kernel_rfl) ?_
  refine O.pure 2 [] [0, 1] [] (fr' := [(0, .slice h0.1 a0.length h0.2), (1, .int .i64 a1)]) (bx' := []) (by kernel_rfl) ?_
  refine O.nil (by kernel_rfl) ?_
  refine J.seq (by kernel_rfl) ?_
  refine J.seq (by kernel_rfl) ?_
  refine J.region (by kernel_rfl) ?_
  refine O.pure 1 [] [0, 1, 6] [] (fr' := [(0, .slice h0.1 a0.length h0.2), (1, .int .i64 a1), (6, .int .i64 0)]) (bx' := []) (by kernel_rfl) ?_
  refine O.nil (by kernel_rfl) ?_
  refine J.block (id := 0) (by kernel_rfl) ?_
  refine J.loopI (σ := Int) (γ := Unit) (f := fun m_ s_ => haywainref05_At.l1 K a0 a1 m_ s_) (fun s1 g1 => [(0, .slice h0.1 a0.length h0.2), (1, .int .i64 a1), (6, .int .i64 s1)]) (fun s1 g1 => St X w [] [] [] [] [Rd kd40 h0.1 h0.2 a0]) K 0 () (by kernel_rfl) H (fun _ => rfl) (fun m_ s1 H ih1 g1 => ?_) (fun h_ => ?_)
  · unfold haywainref05_At.l1 at H
    refine J.seq (by kernel_rfl) ?_
    refine J.seq (by kernel_rfl) ?_
    refine J.region (by kernel_rfl) ?_
    refine O.pure 4 [] [0, 1, 6, 10] [] (fr' := [(0, .slice h0.1 a0.length h0.2), (1, .int .i64 a1), (6, .int .i64 s1), (10, .bool (decide (s1 < (a0.length : Int))))]) (bx' := []) (by kernel_rfl) ?_
    refine O.nil (by kernel_rfl) ?_
    rcases condE H with ⟨hc6, H⟩ | ⟨hc6, H⟩
    · refine J.condT (x := .tmp 10) (t := (decide (s1 < (a0.length : Int)))) (by kernel_rfl) (by kernel_rfl) hc6 ?_
      refine J.skip (by kernel_rfl) ?_
      refine J.seq (by kernel_rfl) ?_
      refine J.block (id := 1) (by kernel_rfl) ?_
      refine J.seq (by kernel_rfl) ?_
      obtain ⟨x4_2, hx4_2, H⟩ := bindE H
      obtain ⟨hx4_2a, hx4_2⟩ := idxE hx4_2
      refine J.region (by kernel_rfl) ?_
      refine O.pure 2 [] [0, 1, 6, 13, 14] [] (fr' := [(0, .slice h0.1 a0.length h0.2), (1, .int .i64 a1), (6, .int .i64 s1), (13, .slice h0.1 a0.length h0.2), (14, .int .i64 s1)]) (bx' := []) (by kernel_rfl) ?_
      refine O.open (d := kd40) (h := h0) (i := s1) 0 rfl hx4_2 (op40 _) (fun p4_2 hp4_2A => ?_)
      refine O.q (v := .pointer (some ⟨p4_2.1, p4_2.2.1 + s1.toNat * 2, none⟩)) (some 15) (Qu.idx (t := 22) (x := .tmp 13) (y := .tmp 14) (c := h0.2) (kk := .i64) (sz := 2) (by kernel_rfl) (by kernel_rfl) (by kernel_rfl) (by kernel_rfl) hx4_2a (idx_lt hx4_2) hp4_2A) (by kernel_rfl) ?_
      refine O.pure 4 [(0, 0)] [0, 1, 6, 19] [p4_2.1, p4_2.2.1 + s1.toNat * 2] (fr' := [(0, .slice h0.1 a0.length h0.2), (1, .int .i64 a1), (6, .int .i64 s1), (19, .bool (x4_2.f0 == a1))]) (bx' := []) (by kernel_rfl) ?_
      refine O.nil (by kernel_rfl) ?_
      rcases condE H with ⟨hc7, H⟩ | ⟨hc7, H⟩
      · refine J.condT (x := .tmp 19) (t := (x4_2.f0 == a1)) (by kernel_rfl) (by kernel_rfl) hc7 ?_
        refine J.seq (by kernel_rfl) ?_
        obtain ⟨x5_2, hx5_2, H⟩ := bindE H
        obtain ⟨hx5_2a, hx5_2⟩ := idxE hx5_2
        refine J.region (by kernel_rfl) ?_
        refine O.pure 2 [] [20, 21] [] (fr' := [(20, .slice h0.1 a0.length h0.2), (21, .int .i64 s1)]) (bx' := []) (by kernel_rfl) ?_
        refine O.open (d := kd40) (h := h0) (i := s1) 0 rfl hx5_2 (op40 _) (fun p5_2 hp5_2A => ?_)
        refine O.q (v := .pointer (some ⟨p5_2.1, p5_2.2.1 + s1.toNat * 2, none⟩)) (some 22) (Qu.idx (t := 22) (x := .tmp 20) (y := .tmp 21) (c := h0.2) (kk := .i64) (sz := 2) (by kernel_rfl) (by kernel_rfl) (by kernel_rfl) (by kernel_rfl) hx5_2a (idx_lt hx5_2) hp5_2A) (by kernel_rfl) ?_
        refine O.pure 4 [(0, 1)] [4, 5] [p5_2.1, p5_2.2.1 + s1.toNat * 2 + 1] (fr' := [(4, .int .i64 x5_2.f1), (5, .bool true)]) (bx' := []) (by kernel_rfl) ?_
        refine O.nil (by kernel_rfl) ?_
        obtain rfl := Option.some.inj H
        exact J.doneS [] [] [] [] [] () (vs := [.int .i64 x5_2.f1, .bool true]) (by kernel_rfl) (by kernel_rfl) (by kernel_rfl) (by kernel_rfl) (by kernel_rfl) (by decide)
      · refine J.condF (x := .tmp 19) (t := (x4_2.f0 == a1)) (by kernel_rfl) (by kernel_rfl) hc7 ?_
        refine J.skip (by kernel_rfl) ?_
        refine J.out ?_
        refine J.region (by kernel_rfl) ?_
        refine O.pure 3 [] [0, 1, 6] [] (fr' := [(0, .slice h0.1 a0.length h0.2), (1, .int .i64 a1), (6, .int .i64 (IntKind.wrap .i64 (s1 + 1)))]) (bx' := []) (by kernel_rfl) ?_
        refine O.nil (by kernel_rfl) ?_
        exact J.conv2 [0, 1, 6] [0] [] [] (by kernel_rfl) (by kernel_rfl) (by kernel_rfl) (by kernel_rfl) (by decide) (ih1 (IntKind.wrap .i64 (s1 + 1)) () H)
    · refine J.condF (x := .tmp 10) (t := (decide (s1 < (a0.length : Int)))) (by kernel_rfl) (by kernel_rfl) hc6 ?_
      refine J.exit (id := 0) (by kernel_rfl) rfl ?_
      refine J.seq (by kernel_rfl) ?_
      refine J.region (by kernel_rfl) ?_
      refine O.pure 2 [] [4, 5] [] (fr' := [(4, .int .i64 0), (5, .bool false)]) (bx' := []) (by kernel_rfl) ?_
      refine O.nil (by kernel_rfl) ?_
      obtain rfl := Option.some.inj H
      exact J.doneS [] [] [] [] [] () (vs := [.int .i64 0, .bool false]) (by kernel_rfl) (by kernel_rfl) (by kernel_rfl) (by kernel_rfl) (by kernel_rfl) (by decide)
  · exact J.conv2 [0, 1, 6] [0] [] [] (by kernel_rfl) (by kernel_rfl) (by kernel_rfl) (by kernel_rfl) (by decide) h_
/-! ### haywain/haywainref05.Same: function 23 -/
def haywainref05_Same.f (K : Nat) (a0 : List S40) (a1 : List S40) : Option Bool := (haywainref05_Sort.f K a0).bind fun x1_1 => (haywainref05_Sort.f K a1).bind fun x1_3 => (haywainref04_SameMsgs.f K x1_1 x1_3).bind fun x1_4 => some (x1_4)
set_option maxRecDepth 100000 in
set_option maxHeartbeats 1000000 in
theorem haywainref05_Same.con (K : Nat) (a0 : List S40) (a1 : List S40) (h0 : Hd) (h1 : Hd) (r : Bool) (X : Nat → Nat → Prop) (w : World) (hS : St X w [] [] [] [] [Rd kd40 h0.1 h0.2 a0, Rd kd40 h1.1 h1.2 a1] w) (H : haywainref05_Same.f K a0 a1 = some r) :
    Cn Try.prog 23 [.slice h0.1 a0.length h0.2, .slice h1.1 a1.length h1.2] X w [] (fun i : Unit => .bool r) (fun i => []) (fun i => []) (fun i => []) := by
  refine Cn.of Try.func23 (by kernel_rfl) hS ?_
  unfold haywainref05_Same.f at H
  refine J.seq (by kernel_rfl) ?_
  refine J.region (by kernel_rfl) ?_
  refine O.pure 1 [] [0, 1] [] (fr' := [(0, .slice h0.1 a0.length h0.2), (1, .slice h1.1 a1.length h1.2)]) (bx' := []) (by kernel_rfl) ?_
  refine O.nil (by kernel_rfl) ?_
  refine J.seq (by kernel_rfl) ?_
  obtain ⟨x1_1, hx1_1, H⟩ := bindE H
  obtain ⟨x1_3, hx1_3, H⟩ := bindE H
  obtain ⟨x1_4, hx1_4, H⟩ := bindE H
  refine J.region (by kernel_rfl) ?_
  refine O.pure 1 [] [1, 5] [] (fr' := [(1, .slice h1.1 a1.length h1.2), (5, .slice h0.1 a0.length h0.2)]) (bx' := []) (by kernel_rfl) ?_
  refine O.e (some 6) (Ev.call0 (xs := [.tmp 5]) [0] (by kernel_rfl) (by kernel_rfl) (fun w hS => haywainref05_Sort.con K a0 h0  _ _ w hS hx1_1)) (by kernel_rfl) (fun p1_1 => ?_)
  refine O.pure 1 [] [6, 7] [] (fr' := [(6, .slice p1_1.1 x1_1.length p1_1.2), (7, .slice h1.1 a1.length h1.2)]) (bx' := []) (by kernel_rfl) ?_
  refine O.e (some 8) (Ev.call0 (xs := [.tmp 7]) [1] (by kernel_rfl) (by kernel_rfl) (fun w hS => haywainref05_Sort.con K a1 h1  _ _ w hS hx1_3)) (by kernel_rfl) (fun p1_3 => ?_)
  refine O.e (some 9) (Ev.mono (fun w hS => hS.rowsel [1, 0] rfl (by decide)) (Ev.mono (fun w hS => hS.freezeH (h := p1_1) (xs := x1_1)) (Ev.mono (fun w hS => hS.freezeH (h := p1_3) (xs := x1_3)) (Ev.call0 (xs := [.tmp 6, .tmp 8]) [1, 0] (by kernel_rfl) (by kernel_rfl) (fun w hS => haywainref04_SameMsgs.con K x1_1 x1_3 p1_1 p1_3  _ _ w hS hx1_4))))) (by kernel_rfl) (fun _ => ?_)
  refine O.pure 1 [] [4] [] (fr' := [(4, .bool x1_4)]) (bx' := []) (by kernel_rfl) ?_
  refine O.nil (by kernel_rfl) ?_
  obtain rfl := Option.some.inj H
  exact J.doneS [] [] [] [] [] () (vs := [.bool x1_4]) (by kernel_rfl) (by kernel_rfl) (by kernel_rfl) (by kernel_rfl) (by kernel_rfl) (by decide)
end Go.Proofs.Ytdbeannfjjbegaa.G
