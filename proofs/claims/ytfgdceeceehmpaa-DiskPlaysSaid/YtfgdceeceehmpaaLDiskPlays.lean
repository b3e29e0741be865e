/- The law DiskPlays as plain Lean, with its contract; printed by a program of this session. -/
import Derived.Test.YtfgdceeceehmpaaG2
set_option linter.unusedVariables false
set_option linter.unusedSimpArgs false
namespace Go.Proofs.Ytfgdceeceehmpaa.G
open Go Go.RowKit Go.Hw
/-! ### haywain/haywainlaw13.DiskPlays: function 6 -/
def haywainlaw13_DiskPlays.l3 (K : Nat) (a1 : List S52) : Nat → ((List S39) × Int × (List S43)) → Option Bool
  | 0, _ => none
  | k + 1, s3 => cond (decide (s3.2.1 < (a1.length : Int))) (cond (decide (s3.2.1 < 30)) ((idxO a1 s3.2.1).bind fun x9_2 => (haywainlaw13_Act_wide.f K x9_2).bind fun x9_4 => cond x9_4 (haywainlaw13_DiskPlays.l3 K a1 k (s3.1, (IntKind.wrap .i64 (s3.2.1 + 1)), s3.2.2)) ((idxO a1 s3.2.1).bind fun x10_3 => (haywainlaw13_do.f K (⟨s3.2.2⟩ : S24) x10_3).bind fun x10_5 => (idxO a1 s3.2.1).bind fun x11_3 => (haywainlaw13_does.f K s3.1 x11_3).bind fun x11_5 => cond (x10_5.2 != x11_5.2) (some (false)) ((haywainlaw13_As.f K x10_5.1).bind fun x12_5 => (haywainref13_Same.f K x12_5 x11_5.1).bind fun x12_7 => cond (!x12_7) (some (false)) (haywainlaw13_DiskPlays.l3 K a1 k (x11_5.1, (IntKind.wrap .i64 (s3.2.1 + 1)), x10_5.1.f0))))) ((haywainlaw13_knows.f K).bind fun x15_0 => some (x15_0))) ((haywainlaw13_knows.f K).bind fun x15_0 => some (x15_0))
def haywainlaw13_DiskPlays.f (K : Nat) (a0 : S24) (a1 : List S52) : Option Bool := (haywainlaw13_great.f K a0).bind fun x1_1 => cond x1_1 ((haywainlaw13_knows.f K).bind fun x2_0 => some (x2_0)) ((haywainlaw13_As.f K a0).bind fun x3_1 => (disk_Right.f K a0).bind fun x4_1 => (haywainref13_Right.f K x3_1).bind fun x4_3 => cond (!(x4_1 == x4_3)) (some (false)) (haywainlaw13_DiskPlays.l3 K a1 K (x3_1, 0, a0.f0)))
set_option maxRecDepth 100000 in
set_option maxHeartbeats 1000000 in
theorem haywainlaw13_DiskPlays.con (K : Nat) (a0 : S24) (a1 : List S52) (h0 : Hd) (h1 : Hd) (r : Bool) (X : Nat → Nat → Prop) (w : World) (hS : St X w [] [] [] [] [Rd kd43 h0.1 h0.2 a0.f0, Rd kd52 h1.1 h1.2 a1] w) (H : haywainlaw13_DiskPlays.f K a0 a1 = some r) :
    Cn Try.prog 6 [.agg #[.slice h0.1 a0.f0.length h0.2], .slice h1.1 a1.length h1.2] X w [] (fun i : Unit => .bool r) (fun i => []) (fun i => []) (fun i => []) := by
  refine Cn.of Try.func6 (by kernel_rfl) hS ?_
  unfold haywainlaw13_DiskPlays.f at H
  refine J.seq (by kernel_rfl) ?_
  refine J.region (by kernel_rfl) ?_
  refine O.e (some 2) (Ev.box (t := 24) (x := .tmp 0) (v := .agg #[.slice h0.1 a0.f0.length h0.2]) (by kernel_rfl) (by kernel_rfl)) (by kernel_rfl) (fun p0_0 => ?_)
  refine O.pure 1 [] [1, 2] [] (fr' := [(1, .slice h1.1 a1.length h1.2), (2, .pointer (some ⟨p0_0, 0, none⟩))]) (bx' := [⟨p0_0, [.slice h0.1 a0.f0.length h0.2], 24⟩]) (by kernel_rfl) ?_
  refine O.nil (by kernel_rfl) ?_
  refine J.seq (by kernel_rfl) ?_
  refine J.seq (by kernel_rfl) ?_
  obtain ⟨x1_1, hx1_1, H⟩ := bindE H
  refine J.region (by kernel_rfl) ?_
  refine O.pure 1 [(0, 0)] [1, 2, 11] [p0_0, 0] (fr' := [(1, .slice h1.1 a1.length h1.2), (2, .pointer (some ⟨p0_0, 0, none⟩)), (11, .agg #[.slice h0.1 a0.f0.length h0.2])]) (bx' := [⟨p0_0, [.slice h0.1 a0.f0.length h0.2], 24⟩]) (by kernel_rfl) ?_
  refine O.e (some 12) (Ev.call0 (xs := [.tmp 11]) [0] (by kernel_rfl) (by kernel_rfl) (fun w hS => haywainlaw13_great.con K a0 h0  _ _ w hS hx1_1)) (by kernel_rfl) (fun _ => ?_)
  refine O.nil (by kernel_rfl) ?_
  rcases condE H with ⟨hc1, H⟩ | ⟨hc1, H⟩
  · refine J.condT (x := .tmp 12) (t := x1_1) (by kernel_rfl) (by kernel_rfl) hc1 ?_
    refine J.seq (by kernel_rfl) ?_
    obtain ⟨x2_0, hx2_0, H⟩ := bindE H
    refine J.region (by kernel_rfl) ?_
    refine O.e (some 13) (Ev.call0 (xs := []) [] (by kernel_rfl) (by kernel_rfl) (fun w hS => haywainlaw13_knows.con K  _ _ w hS hx2_0)) (by kernel_rfl) (fun _ => ?_)
    refine O.pure 1 [] [4] [] (fr' := [(4, .bool x2_0)]) (bx' := [⟨p0_0, [.slice h0.1 a0.f0.length h0.2], 24⟩]) (by kernel_rfl) ?_
    refine O.nil (by kernel_rfl) ?_
    obtain rfl := Option.some.inj H
    exact J.doneS [] [] [] [] [] () (vs := [.bool x2_0]) (by kernel_rfl) (by kernel_rfl) (by kernel_rfl) (by kernel_rfl) (by kernel_rfl) (by decide)
  · refine J.condF (x := .tmp 12) (t := x1_1) (by kernel_rfl) (by kernel_rfl) hc1 ?_
    refine J.skip (by kernel_rfl) ?_
    refine J.seq (by kernel_rfl) ?_
    obtain ⟨x3_1, hx3_1, H⟩ := bindE H
    refine J.region (by kernel_rfl) ?_
    refine O.pure 1 [(0, 0)] [1, 2, 14] [p0_0, 0] (fr' := [(1, .slice h1.1 a1.length h1.2), (2, .pointer (some ⟨p0_0, 0, none⟩)), (14, .agg #[.slice h0.1 a0.f0.length h0.2])]) (bx' := [⟨p0_0, [.slice h0.1 a0.f0.length h0.2], 24⟩]) (by kernel_rfl) ?_
    refine O.e (some 15) (Ev.call0 (xs := [.tmp 14]) [0] (by kernel_rfl) (by kernel_rfl) (fun w hS => haywainlaw13_As.con K a0 h0  _ _ w hS hx3_1)) (by kernel_rfl) (fun p3_1 => ?_)
    refine O.pure 1 [] [1, 2, 5] [] (fr' := [(1, .slice h1.1 a1.length h1.2), (2, .pointer (some ⟨p0_0, 0, none⟩)), (5, .slice p3_1.1 x3_1.length p3_1.2)]) (bx' := [⟨p0_0, [.slice h0.1 a0.f0.length h0.2], 24⟩]) (by kernel_rfl) ?_
    refine O.nil (by kernel_rfl) ?_
    refine J.seq (by kernel_rfl) ?_
    refine J.seq (by kernel_rfl) ?_
    obtain ⟨x4_1, hx4_1, H⟩ := bindE H
    obtain ⟨x4_3, hx4_3, H⟩ := bindE H
    refine J.region (by kernel_rfl) ?_
    refine O.pure 1 [(0, 0)] [1, 2, 5, 16] [p0_0, 0] (fr' := [(1, .slice h1.1 a1.length h1.2), (2, .pointer (some ⟨p0_0, 0, none⟩)), (5, .slice p3_1.1 x3_1.length p3_1.2), (16, .agg #[.slice h0.1 a0.f0.length h0.2])]) (bx' := [⟨p0_0, [.slice h0.1 a0.f0.length h0.2], 24⟩]) (by kernel_rfl) ?_
    refine O.e (some 17) (Ev.call0 (xs := [.tmp 16]) [0] (by kernel_rfl) (by kernel_rfl) (fun w hS => disk_Right.con K a0 h0  _ _ w hS hx4_1)) (by kernel_rfl) (fun _ => ?_)
    refine O.pure 1 [] [1, 2, 5, 17, 18] [] (fr' := [(1, .slice h1.1 a1.length h1.2), (2, .pointer (some ⟨p0_0, 0, none⟩)), (5, .slice p3_1.1 x3_1.length p3_1.2), (17, .bool x4_1), (18, .slice p3_1.1 x3_1.length p3_1.2)]) (bx' := [⟨p0_0, [.slice h0.1 a0.f0.length h0.2], 24⟩]) (by kernel_rfl) ?_
    refine O.e (some 19) (Ev.callLb (xs1 := [.tmp 18]) [0] (fun w hS => (hS.rowsel [0] rfl (by decide)).freezeL (hh := p3_1) (m := x3_1.length) (xs := x3_1) rfl) (by kernel_rfl) (by kernel_rfl) (fun _ q hq => by cases hq) (fun w hS => haywainref13_Right.con K x3_1 p3_1  _ _ w hS hx4_3)) (by kernel_rfl) (fun _ => ?_)
    refine O.q (v := .bool (!(x4_1 == x4_3))) (some 20) (Qu.binT (op := .neq) (t := 4) (t' := 4) (x := .tmp 17) (y := .tmp 19) (u := .bool x4_1) (v := .bool x4_3) (by kernel_rfl) (by kernel_rfl) (by kernel_rfl) (by kernel_rfl)) (by kernel_rfl) ?_
    refine O.nil (by kernel_rfl) ?_
    rcases condE H with ⟨hc2, H⟩ | ⟨hc2, H⟩
    · refine J.condT (x := .tmp 20) (t := (!(x4_1 == x4_3))) (by kernel_rfl) (by kernel_rfl) hc2 ?_
      refine J.seq (by kernel_rfl) ?_
      refine J.region (by kernel_rfl) ?_
      refine O.pure 1 [] [4] [] (fr' := [(4, .bool false)]) (bx' := [⟨p0_0, [.slice h0.1 a0.f0.length h0.2], 24⟩]) (by kernel_rfl) ?_
      refine O.nil (by kernel_rfl) ?_
      obtain rfl := Option.some.inj H
      exact J.doneS [] [] [] [] [] () (vs := [.bool false]) (by kernel_rfl) (by kernel_rfl) (by kernel_rfl) (by kernel_rfl) (by kernel_rfl) (by decide)
    · refine J.condF (x := .tmp 20) (t := (!(x4_1 == x4_3))) (by kernel_rfl) (by kernel_rfl) hc2 ?_
      refine J.skip (by kernel_rfl) ?_
      refine J.seq (by kernel_rfl) ?_
      refine J.seq (by kernel_rfl) ?_
      refine J.region (by kernel_rfl) ?_
      refine O.pure 1 [] [1, 2, 5, 6] [] (fr' := [(1, .slice h1.1 a1.length h1.2), (2, .pointer (some ⟨p0_0, 0, none⟩)), (5, .slice p3_1.1 x3_1.length p3_1.2), (6, .int .i64 0)]) (bx' := [⟨p0_0, [.slice h0.1 a0.f0.length h0.2], 24⟩]) (by kernel_rfl) ?_
      refine O.nil (by kernel_rfl) ?_
      refine J.block (id := 0) (by kernel_rfl) ?_
      refine J.loopI (σ := (List S39) × Int × (List S43)) (γ := Hd × Hd) (f := fun m_ s_ => haywainlaw13_DiskPlays.l3 K a1 m_ s_) (fun s3 g3 => [(1, .slice h1.1 a1.length h1.2), (2, .pointer (some ⟨p0_0, 0, none⟩)), (5, .slice g3.1.1 s3.1.length g3.1.2), (6, .int .i64 s3.2.1)]) (fun s3 g3 => St X w [] [⟨p0_0, [.slice g3.2.1 s3.2.2.length g3.2.2], 24⟩] [] [] [Rd kd39 g3.1.1 g3.1.2 s3.1, Rd kd43 g3.2.1 g3.2.2 s3.2.2, Rd kd43 h0.1 h0.2 a0.f0, Rd kd52 h1.1 h1.2 a1]) K (x3_1, 0, a0.f0) (p3_1, h0) (by kernel_rfl) H (fun _ => rfl) (fun m_ s3 H ih3 g3 => ?_) (fun h_ => ?_)
      · unfold haywainlaw13_DiskPlays.l3 at H
        refine J.seq (by kernel_rfl) ?_
        refine J.seq (by kernel_rfl) ?_
        rcases condE H with ⟨hc13, H⟩ | ⟨hc13, H⟩
        · refine J.region (by kernel_rfl) ?_
          refine O.pure 3 [] [1, 2, 5, 6, 21, 23] [] (fr' := [(1, .slice h1.1 a1.length h1.2), (2, .pointer (some ⟨p0_0, 0, none⟩)), (5, .slice g3.1.1 s3.1.length g3.1.2), (6, .int .i64 s3.2.1), (21, .int .i64 s3.2.1), (23, .int .i64 (a1.length : Int))]) (bx' := [⟨p0_0, [.slice g3.2.1 s3.2.2.length g3.2.2], 24⟩]) (by kernel_rfl) ?_
          refine O.q (v := .bool true) (some 24) (Qu.eqv (u := .bool (decide (s3.2.1 < (a1.length : Int)))) (v := .bool true) (0, 0) [] (by kernel_rfl) (congrArg Value.bool hc13)) (by kernel_rfl) ?_
          refine O.pure 4 [] [1, 2, 5, 6, 26, 27, 28] [] (fr' := [(1, .slice h1.1 a1.length h1.2), (2, .pointer (some ⟨p0_0, 0, none⟩)), (5, .slice g3.1.1 s3.1.length g3.1.2), (6, .int .i64 s3.2.1), (26, .int .i64 s3.2.1), (27, .bool (decide (s3.2.1 < 30))), (28, .bool (decide (s3.2.1 < 30)))]) (bx' := [⟨p0_0, [.slice g3.2.1 s3.2.2.length g3.2.2], 24⟩]) (by kernel_rfl) ?_
          refine O.nil (by kernel_rfl) ?_
          rcases condE H with ⟨hc14, H⟩ | ⟨hc14, H⟩
          · refine J.condT (x := .tmp 28) (t := (decide (s3.2.1 < 30))) (by kernel_rfl) (by kernel_rfl) hc14 ?_
            refine J.skip (by kernel_rfl) ?_
            refine J.seq (by kernel_rfl) ?_
            refine J.block (id := 1) (by kernel_rfl) ?_
            refine J.seq (by kernel_rfl) ?_
            refine J.seq (by kernel_rfl) ?_
            obtain ⟨x9_2, hx9_2, H⟩ := bindE H
            obtain ⟨hx9_2a, hx9_2⟩ := idxE hx9_2
            obtain ⟨x9_4, hx9_4, H⟩ := bindE H
            refine J.region (by kernel_rfl) ?_
            refine O.pure 2 [] [1, 2, 5, 6, 26, 27, 31, 32] [] (fr' := [(1, .slice h1.1 a1.length h1.2), (2, .pointer (some ⟨p0_0, 0, none⟩)), (5, .slice g3.1.1 s3.1.length g3.1.2), (6, .int .i64 s3.2.1), (26, .int .i64 s3.2.1), (27, .bool (decide (s3.2.1 < 30))), (31, .slice h1.1 a1.length h1.2), (32, .int .i64 s3.2.1)]) (bx' := [⟨p0_0, [.slice g3.2.1 s3.2.2.length g3.2.2], 24⟩]) (by kernel_rfl) ?_
            refine O.open (d := kd52) (h := h1) (i := s3.2.1) 3 rfl hx9_2 (op52 _) (fun p9_2 hp9_2A => ?_)
            refine O.q (v := .pointer (some ⟨p9_2.1, p9_2.2.1 + s3.2.1.toNat * 5, none⟩)) (some 33) (Qu.idx (t := 49) (x := .tmp 31) (y := .tmp 32) (c := h1.2) (kk := .i64) (sz := 5) (by kernel_rfl) (by kernel_rfl) (by kernel_rfl) (by kernel_rfl) hx9_2a (idx_lt hx9_2) hp9_2A) (by kernel_rfl) ?_
            refine O.pure 1 [(1, 0)] [1, 2, 5, 6, 26, 27, 34] [p9_2.1, p9_2.2.1 + s3.2.1.toNat * 5] (fr' := [(1, .slice h1.1 a1.length h1.2), (2, .pointer (some ⟨p0_0, 0, none⟩)), (5, .slice g3.1.1 s3.1.length g3.1.2), (6, .int .i64 s3.2.1), (26, .int .i64 s3.2.1), (27, .bool (decide (s3.2.1 < 30))), (34, .agg #[.int .i64 x9_2.f0, .int .i64 x9_2.f1, .string x9_2.f2, .slice p9_2.2.2.1.1 x9_2.f3.length p9_2.2.2.1.2, .slice p9_2.2.2.2.1 x9_2.f4.length p9_2.2.2.2.2])]) (bx' := [⟨p0_0, [.slice g3.2.1 s3.2.2.length g3.2.2], 24⟩]) (by kernel_rfl) ?_
            refine O.e (some 35) (Ev.call0 (xs := [.tmp 34]) [0, 1] (by kernel_rfl) (by kernel_rfl) (fun w hS => haywainlaw13_Act_wide.con K x9_2 p9_2.2.2.1 p9_2.2.2.2  _ _ w hS hx9_4)) (by kernel_rfl) (fun _ => ?_)
            refine O.nil (by kernel_rfl) ?_
            rcases condE H with ⟨hc15, H⟩ | ⟨hc15, H⟩
            · refine J.condT (x := .tmp 35) (t := x9_4) (by kernel_rfl) (by kernel_rfl) hc15 ?_
              refine J.exit (id := 1) (by kernel_rfl) rfl ?_
              refine J.region (by kernel_rfl) ?_
              refine O.pure 3 [] [1, 2, 5, 6, 26, 27] [] (fr' := [(1, .slice h1.1 a1.length h1.2), (2, .pointer (some ⟨p0_0, 0, none⟩)), (5, .slice g3.1.1 s3.1.length g3.1.2), (6, .int .i64 (IntKind.wrap .i64 (s3.2.1 + 1))), (26, .int .i64 s3.2.1), (27, .bool (decide (s3.2.1 < 30)))]) (bx' := [⟨p0_0, [.slice g3.2.1 s3.2.2.length g3.2.2], 24⟩]) (by kernel_rfl) ?_
              refine O.nil (by kernel_rfl) ?_
              exact J.conv2 [1, 2, 5, 6] [2, 3, 4, 5] [0] [] (by kernel_rfl) (by kernel_rfl) (by kernel_rfl) (by kernel_rfl) (by decide) (ih3 (s3.1, (IntKind.wrap .i64 (s3.2.1 + 1)), s3.2.2) (g3.1, g3.2) H)
            · refine J.condF (x := .tmp 35) (t := x9_4) (by kernel_rfl) (by kernel_rfl) hc15 ?_
              refine J.skip (by kernel_rfl) ?_
              refine J.seq (by kernel_rfl) ?_
              obtain ⟨x10_3, hx10_3, H⟩ := bindE H
              obtain ⟨hx10_3a, hx10_3⟩ := idxE hx10_3
              obtain ⟨x10_5, hx10_5, H⟩ := bindE H
              refine J.open (d := kd52) (h := h1) (i := s3.2.1) 5 rfl hx10_3 (op52 _) (fun p10_3 hp10_3A => ?_)
              refine J.cutAt (γ := Hd × Nat) (fun q_ => [(1, .slice h1.1 a1.length h1.2), (2, .pointer (some ⟨p0_0, 0, none⟩)), (5, .slice g3.1.1 s3.1.length g3.1.2), (6, .int .i64 s3.2.1), (7, .pointer (some ⟨q_.2, 0, none⟩)), (8, .int .i64 x10_5.2), (26, .int .i64 s3.2.1), (27, .bool (decide (s3.2.1 < 30)))]) (fun q_ => St X w [] [⟨q_.2, [.slice q_.1.1 x10_5.1.f0.length q_.1.2], 24⟩, ⟨p0_0, [.slice g3.2.1 s3.2.2.length g3.2.2], 24⟩] [] [] [Rd kd43 q_.1.1 q_.1.2 x10_5.1.f0, Rd (Kd.int .u8) p10_3.2.2.1.1 p10_3.2.2.1.2 x10_3.f3, Rd (Kd.int .i64) p10_3.2.2.2.1 p10_3.2.2.2.2 x10_3.f4, Rd (Kd.int .u8) p9_2.2.2.1.1 p9_2.2.2.1.2 x9_2.f3, Rd (Kd.int .i64) p9_2.2.2.2.1 p9_2.2.2.2.2 x9_2.f4, Rd kd39 g3.1.1 g3.1.2 s3.1, Rd kd43 g3.2.1 g3.2.2 s3.2.2, Rd kd43 h0.1 h0.2 a0.f0, Rd kd52 h1.1 h1.2 a1]) (fun q_ => ?_) (fun hk_ => ?_)
              · obtain ⟨p10_5, p10_9⟩ := q_
                refine J.seq (by kernel_rfl) ?_
                obtain ⟨x11_3, hx11_3, H⟩ := bindE H
                obtain ⟨hx11_3a, hx11_3⟩ := idxE hx11_3
                obtain ⟨x11_5, hx11_5, H⟩ := bindE H
                refine J.region (by kernel_rfl) ?_
                refine O.pure 3 [] [1, 2, 6, 7, 8, 26, 27, 46, 47, 48] [] (fr' := [(1, .slice h1.1 a1.length h1.2), (2, .pointer (some ⟨p0_0, 0, none⟩)), (6, .int .i64 s3.2.1), (7, .pointer (some ⟨p10_9, 0, none⟩)), (8, .int .i64 x10_5.2), (26, .int .i64 s3.2.1), (27, .bool (decide (s3.2.1 < 30))), (46, .slice g3.1.1 s3.1.length g3.1.2), (47, .slice h1.1 a1.length h1.2), (48, .int .i64 s3.2.1)]) (bx' := [⟨p10_9, [.slice p10_5.1 x10_5.1.f0.length p10_5.2], 24⟩, ⟨p0_0, [.slice g3.2.1 s3.2.2.length g3.2.2], 24⟩]) (by kernel_rfl) ?_
                refine O.open (d := kd52) (h := h1) (i := s3.2.1) 8 rfl hx11_3 (op52 _) (fun p11_3 hp11_3A => ?_)
                refine O.q (v := .pointer (some ⟨p11_3.1, p11_3.2.1 + s3.2.1.toNat * 5, none⟩)) (some 49) (Qu.idx (t := 49) (x := .tmp 47) (y := .tmp 48) (c := h1.2) (kk := .i64) (sz := 5) (by kernel_rfl) (by kernel_rfl) (by kernel_rfl) (by kernel_rfl) hx11_3a (idx_lt hx11_3) hp11_3A) (by kernel_rfl) ?_
                refine O.pure 1 [(2, 0)] [1, 2, 6, 7, 8, 26, 27, 46, 50] [p11_3.1, p11_3.2.1 + s3.2.1.toNat * 5] (fr' := [(1, .slice h1.1 a1.length h1.2), (2, .pointer (some ⟨p0_0, 0, none⟩)), (6, .int .i64 s3.2.1), (7, .pointer (some ⟨p10_9, 0, none⟩)), (8, .int .i64 x10_5.2), (26, .int .i64 s3.2.1), (27, .bool (decide (s3.2.1 < 30))), (46, .slice g3.1.1 s3.1.length g3.1.2), (50, .agg #[.int .i64 x11_3.f0, .int .i64 x11_3.f1, .string x11_3.f2, .slice p11_3.2.2.1.1 x11_3.f3.length p11_3.2.2.1.2, .slice p11_3.2.2.2.1 x11_3.f4.length p11_3.2.2.2.2])]) (bx' := [⟨p10_9, [.slice p10_5.1 x10_5.1.f0.length p10_5.2], 24⟩, ⟨p0_0, [.slice g3.2.1 s3.2.2.length g3.2.2], 24⟩]) (by kernel_rfl) ?_
                refine O.e (some 51) (Ev.call0 (xs := [.tmp 46, .tmp 50]) [7, 0, 1] (by kernel_rfl) (by kernel_rfl) (fun w hS => haywainlaw13_does.con K s3.1 x11_3 g3.1 p11_3.2.2.1 p11_3.2.2.2  _ _ w hS hx11_5)) (by kernel_rfl) (fun p11_5 => ?_)
                refine O.pure 5 [] [1, 2, 6, 7, 8, 9, 10, 26, 27] [] (fr' := [(1, .slice h1.1 a1.length h1.2), (2, .pointer (some ⟨p0_0, 0, none⟩)), (6, .int .i64 s3.2.1), (7, .pointer (some ⟨p10_9, 0, none⟩)), (8, .int .i64 x10_5.2), (9, .slice p11_5.1 x11_5.1.length p11_5.2), (10, .int .i64 x11_5.2), (26, .int .i64 s3.2.1), (27, .bool (decide (s3.2.1 < 30)))]) (bx' := [⟨p10_9, [.slice p10_5.1 x10_5.1.f0.length p10_5.2], 24⟩, ⟨p0_0, [.slice g3.2.1 s3.2.2.length g3.2.2], 24⟩]) (by kernel_rfl) ?_
                refine O.nil (by kernel_rfl) ?_
                refine J.seq (by kernel_rfl) ?_
                refine J.seq (by kernel_rfl) ?_
                rcases condE H with ⟨hc16, H⟩ | ⟨hc16, H⟩
                · refine J.region (by kernel_rfl) ?_
                  refine O.pure 2 [] [1, 2, 6, 7, 9, 26, 27, 54, 55] [] (fr' := [(1, .slice h1.1 a1.length h1.2), (2, .pointer (some ⟨p0_0, 0, none⟩)), (6, .int .i64 s3.2.1), (7, .pointer (some ⟨p10_9, 0, none⟩)), (9, .slice p11_5.1 x11_5.1.length p11_5.2), (26, .int .i64 s3.2.1), (27, .bool (decide (s3.2.1 < 30))), (54, .int .i64 x10_5.2), (55, .int .i64 x11_5.2)]) (bx' := [⟨p10_9, [.slice p10_5.1 x10_5.1.f0.length p10_5.2], 24⟩, ⟨p0_0, [.slice g3.2.1 s3.2.2.length g3.2.2], 24⟩]) (by kernel_rfl) ?_
                  refine O.q (v := .bool true) (some 56) (Qu.eqv (u := .bool (x10_5.2 != x11_5.2)) (v := .bool true) (0, 0) [] (by kernel_rfl) (congrArg Value.bool hc16)) (by kernel_rfl) ?_
                  refine O.pure 7 [] [1, 2, 6, 7, 9, 26, 27, 58, 59, 60, 61, 62, 63] [] (fr' := [(1, .slice h1.1 a1.length h1.2), (2, .pointer (some ⟨p0_0, 0, none⟩)), (6, .int .i64 s3.2.1), (7, .pointer (some ⟨p10_9, 0, none⟩)), (9, .slice p11_5.1 x11_5.1.length p11_5.2), (26, .int .i64 s3.2.1), (27, .bool (decide (s3.2.1 < 30))), (58, undef), (59, undef), (60, undef), (61, undef), (62, undef), (63, .bool true)]) (bx' := [⟨p10_9, [.slice p10_5.1 x10_5.1.f0.length p10_5.2], 24⟩, ⟨p0_0, [.slice g3.2.1 s3.2.2.length g3.2.2], 24⟩]) (by kernel_rfl) ?_
                  refine O.nil (by kernel_rfl) ?_
                  refine J.cond (o := .tmp 63) true (by kernel_rfl) (by kernel_rfl) ?_
                  refine J.seq (by kernel_rfl) ?_
                  refine J.region (by kernel_rfl) ?_
                  refine O.pure 1 [] [4] [] (fr' := [(4, .bool false)]) (bx' := [⟨p10_9, [.slice p10_5.1 x10_5.1.f0.length p10_5.2], 24⟩, ⟨p0_0, [.slice g3.2.1 s3.2.2.length g3.2.2], 24⟩]) (by kernel_rfl) ?_
                  refine O.nil (by kernel_rfl) ?_
                  obtain rfl := Option.some.inj H
                  exact J.doneS [] [] [] [] [] () (vs := [.bool false]) (by kernel_rfl) (by kernel_rfl) (by kernel_rfl) (by kernel_rfl) (by kernel_rfl) (by decide)
                · obtain ⟨x12_5, hx12_5, H⟩ := bindE H
                  obtain ⟨x12_7, hx12_7, H⟩ := bindE H
                  refine J.region (by kernel_rfl) ?_
                  refine O.pure 2 [] [1, 2, 6, 7, 9, 26, 27, 54, 55] [] (fr' := [(1, .slice h1.1 a1.length h1.2), (2, .pointer (some ⟨p0_0, 0, none⟩)), (6, .int .i64 s3.2.1), (7, .pointer (some ⟨p10_9, 0, none⟩)), (9, .slice p11_5.1 x11_5.1.length p11_5.2), (26, .int .i64 s3.2.1), (27, .bool (decide (s3.2.1 < 30))), (54, .int .i64 x10_5.2), (55, .int .i64 x11_5.2)]) (bx' := [⟨p10_9, [.slice p10_5.1 x10_5.1.f0.length p10_5.2], 24⟩, ⟨p0_0, [.slice g3.2.1 s3.2.2.length g3.2.2], 24⟩]) (by kernel_rfl) ?_
                  refine O.q (v := .bool false) (some 56) (Qu.eqv (u := .bool (x10_5.2 != x11_5.2)) (v := .bool false) (0, 0) [] (by kernel_rfl) (congrArg Value.bool hc16)) (by kernel_rfl) ?_
                  refine O.pure 2 [(0, 0)] [1, 2, 6, 7, 9, 26, 27, 57, 58] [p10_9, 0] (fr' := [(1, .slice h1.1 a1.length h1.2), (2, .pointer (some ⟨p0_0, 0, none⟩)), (6, .int .i64 s3.2.1), (7, .pointer (some ⟨p10_9, 0, none⟩)), (9, .slice p11_5.1 x11_5.1.length p11_5.2), (26, .int .i64 s3.2.1), (27, .bool (decide (s3.2.1 < 30))), (57, .bool false), (58, .agg #[.slice p10_5.1 x10_5.1.f0.length p10_5.2])]) (bx' := [⟨p10_9, [.slice p10_5.1 x10_5.1.f0.length p10_5.2], 24⟩, ⟨p0_0, [.slice g3.2.1 s3.2.2.length g3.2.2], 24⟩]) (by kernel_rfl) ?_
                  refine O.e (some 59) (Ev.call0 (xs := [.tmp 58]) [3] (by kernel_rfl) (by kernel_rfl) (fun w hS => haywainlaw13_As.con K x10_5.1 p10_5  _ _ w hS hx12_5)) (by kernel_rfl) (fun p12_5 => ?_)
                  refine O.pure 1 [] [1, 2, 6, 7, 9, 26, 27, 57, 58, 59, 60] [] (fr' := [(1, .slice h1.1 a1.length h1.2), (2, .pointer (some ⟨p0_0, 0, none⟩)), (6, .int .i64 s3.2.1), (7, .pointer (some ⟨p10_9, 0, none⟩)), (9, .slice p11_5.1 x11_5.1.length p11_5.2), (26, .int .i64 s3.2.1), (27, .bool (decide (s3.2.1 < 30))), (57, .bool false), (58, .agg #[.slice p10_5.1 x10_5.1.f0.length p10_5.2]), (59, .slice p12_5.1 x12_5.length p12_5.2), (60, .slice p11_5.1 x11_5.1.length p11_5.2)]) (bx' := [⟨p10_9, [.slice p10_5.1 x10_5.1.f0.length p10_5.2], 24⟩, ⟨p0_0, [.slice g3.2.1 s3.2.2.length g3.2.2], 24⟩]) (by kernel_rfl) ?_
                  refine O.e (some 61) (Ev.callLb (xs1 := [.tmp 59, .tmp 60]) [0, 1] (fun w hS => (hS.rowsel [0] rfl (by decide)).freezeL (hh := p12_5) (m := x12_5.length) (xs := x12_5) rfl) (by kernel_rfl) (by kernel_rfl) (fun _ q hq => by cases hq) (fun w hS => haywainref13_Same.con K x12_5 x11_5.1 p12_5 p11_5  _ _ w hS hx12_7)) (by kernel_rfl) (fun _ => ?_)
                  refine O.pure 2 [] [1, 2, 6, 7, 9, 26, 27, 58, 59, 60, 61, 62, 63] [] (fr' := [(1, .slice h1.1 a1.length h1.2), (2, .pointer (some ⟨p0_0, 0, none⟩)), (6, .int .i64 s3.2.1), (7, .pointer (some ⟨p10_9, 0, none⟩)), (9, .slice p11_5.1 x11_5.1.length p11_5.2), (26, .int .i64 s3.2.1), (27, .bool (decide (s3.2.1 < 30))), (58, .agg #[.slice p10_5.1 x10_5.1.f0.length p10_5.2]), (59, .slice p12_5.1 x12_5.length p12_5.2), (60, .slice p11_5.1 x11_5.1.length p11_5.2), (61, .bool x12_7), (62, .bool (!x12_7)), (63, .bool (!x12_7))]) (bx' := [⟨p10_9, [.slice p10_5.1 x10_5.1.f0.length p10_5.2], 24⟩, ⟨p0_0, [.slice g3.2.1 s3.2.2.length g3.2.2], 24⟩]) (by kernel_rfl) ?_
                  refine O.nil (by kernel_rfl) ?_
                  rcases condE H with ⟨hc17, H⟩ | ⟨hc17, H⟩
                  · refine J.condT (x := .tmp 63) (t := (!x12_7)) (by kernel_rfl) (by kernel_rfl) hc17 ?_
                    refine J.seq (by kernel_rfl) ?_
                    refine J.region (by kernel_rfl) ?_
                    refine O.pure 1 [] [4] [] (fr' := [(4, .bool false)]) (bx' := [⟨p10_9, [.slice p10_5.1 x10_5.1.f0.length p10_5.2], 24⟩, ⟨p0_0, [.slice g3.2.1 s3.2.2.length g3.2.2], 24⟩]) (by kernel_rfl) ?_
                    refine O.nil (by kernel_rfl) ?_
                    obtain rfl := Option.some.inj H
                    exact J.doneS [] [] [] [] [] () (vs := [.bool false]) (by kernel_rfl) (by kernel_rfl) (by kernel_rfl) (by kernel_rfl) (by kernel_rfl) (by decide)
                  · refine J.condF (x := .tmp 63) (t := (!x12_7)) (by kernel_rfl) (by kernel_rfl) hc17 ?_
                    refine J.skip (by kernel_rfl) ?_
                    refine J.region (by kernel_rfl) ?_
                    refine O.pure 4 [(0, 0), (1, 0)] [1, 2, 5, 6, 26, 27, 58, 59, 60, 61, 62] [p10_9, 0, p0_0, 0] (fr' := [(1, .slice h1.1 a1.length h1.2), (2, .pointer (some ⟨p0_0, 0, none⟩)), (5, .slice p11_5.1 x11_5.1.length p11_5.2), (6, .int .i64 s3.2.1), (26, .int .i64 s3.2.1), (27, .bool (decide (s3.2.1 < 30))), (58, .agg #[.slice p10_5.1 x10_5.1.f0.length p10_5.2]), (59, .slice p12_5.1 x12_5.length p12_5.2), (60, .slice p11_5.1 x11_5.1.length p11_5.2), (61, .bool x12_7), (62, .bool (!x12_7))]) (bx' := [⟨p10_9, [.slice p10_5.1 x10_5.1.f0.length p10_5.2], 24⟩, ⟨p0_0, [.slice p10_5.1 x10_5.1.f0.length p10_5.2], 24⟩]) (by kernel_rfl) ?_
                    refine O.nil (by kernel_rfl) ?_
                    refine J.out ?_
                    refine J.region (by kernel_rfl) ?_
                    refine O.pure 3 [] [1, 2, 5, 6, 26, 27, 58, 59, 60, 61, 62] [] (fr' := [(1, .slice h1.1 a1.length h1.2), (2, .pointer (some ⟨p0_0, 0, none⟩)), (5, .slice p11_5.1 x11_5.1.length p11_5.2), (6, .int .i64 (IntKind.wrap .i64 (s3.2.1 + 1))), (26, .int .i64 s3.2.1), (27, .bool (decide (s3.2.1 < 30))), (58, .agg #[.slice p10_5.1 x10_5.1.f0.length p10_5.2]), (59, .slice p12_5.1 x12_5.length p12_5.2), (60, .slice p11_5.1 x11_5.1.length p11_5.2), (61, .bool x12_7), (62, .bool (!x12_7))]) (bx' := [⟨p10_9, [.slice p10_5.1 x10_5.1.f0.length p10_5.2], 24⟩, ⟨p0_0, [.slice p10_5.1 x10_5.1.f0.length p10_5.2], 24⟩]) (by kernel_rfl) ?_
                    refine O.nil (by kernel_rfl) ?_
                    exact J.conv2 [1, 2, 5, 6] [0, 3, 10, 11] [1] [] (by kernel_rfl) (by kernel_rfl) (by kernel_rfl) (by kernel_rfl) (by decide) (ih3 (x11_5.1, (IntKind.wrap .i64 (s3.2.1 + 1)), x10_5.1.f0) (p11_5, p10_5) H)
              · refine J.drawS (by kernel_rfl) [(0, some 37, .agg #[.slice g3.2.1 s3.2.2.length g3.2.2]), (1, some 38, .slice h1.1 a1.length h1.2), (2, some 39, .int .i64 s3.2.1), (4, some 41, .agg #[.int .i64 x10_3.f0, .int .i64 x10_3.f1, .string x10_3.f2, .slice p10_3.2.2.1.1 x10_3.f3.length p10_3.2.2.1.2, .slice p10_3.2.2.2.1 x10_3.f4.length p10_3.2.2.2.2]), (3, some 40, .pointer (some ⟨p10_3.1, p10_3.2.1 + s3.2.1.toNat * 5, none⟩))] ([0, 1, 2, 4] ++ [3]) (by kernel_rfl) ?_
                refine D.mid (cs := [5, 9]) [0, 1, 2, 4] [3] [(0, 0), (1, 0)] [p0_0, 0, p10_3.1, p10_3.2.1 + s3.2.1.toNat * 5] (by kernel_rfl) (by kernel_rfl) (⟨QuAt.mk (v := .pointer (some ⟨p10_3.1, p10_3.2.1 + s3.2.1.toNat * 5, none⟩)) (some 40) (by kernel_rfl) (by kernel_rfl) (Qu.idx (t := 49) (x := .tmp 38) (y := .tmp 39) (c := h1.2) (kk := .i64) (sz := 5) (by kernel_rfl) (by kernel_rfl) (by kernel_rfl) (by kernel_rfl) hx10_3a (idx_lt hx10_3) hp10_3A), trivial⟩) (by kernel_rfl) ⟨?_, ?_, trivial⟩
                · refine EvStep.mk (some 42) (new := fun p10_5 => [(6, some 36, .tuple #[.agg #[.slice p10_5.1 x10_5.1.f0.length p10_5.2], .int .i64 x10_5.2]), (7, some 43, .agg #[.slice p10_5.1 x10_5.1.f0.length p10_5.2]), (8, some 44, .int .i64 x10_5.2)]) ([1, 2, 6, 7, 8] ++ [3]) (by kernel_rfl) (Ev.call0 (xs := [.tmp 37, .tmp 41]) [5, 0, 1] (by kernel_rfl) (by kernel_rfl) (fun w hS => haywainlaw13_do.con K (⟨s3.2.2⟩ : S24) x10_3 g3.2 p10_3.2.2.1 p10_3.2.2.2  _ _ w hS hx10_5)) (fun p10_5 => by kernel_rfl) (fun p10_5 => ?_)
                  refine D.mid (cs := [9]) [1, 2, 6, 7, 8] [3] [] [] (by kernel_rfl) (by kernel_rfl) (⟨QuAt.mk (v := .pointer (some ⟨p10_3.1, p10_3.2.1 + s3.2.1.toNat * 5, none⟩)) (some 40) (by kernel_rfl) (by kernel_rfl) (Qu.idx (t := 49) (x := .tmp 38) (y := .tmp 39) (c := h1.2) (kk := .i64) (sz := 5) (by kernel_rfl) (by kernel_rfl) (by kernel_rfl) (by kernel_rfl) hx10_3a (idx_lt hx10_3) hp10_3A), trivial⟩) (by kernel_rfl) ⟨?_, trivial⟩
                  refine EvStep.mk (some 7) (new := fun p10_9 => []) ([1, 2, 6, 7, 8] ++ [3]) (by kernel_rfl) (Ev.alloc (t := 24) (z := .agg #[.slice none 0 0]) (by kernel_rfl) (by kernel_rfl)) (fun p10_9 => by kernel_rfl) (fun p10_9 => ?_)
                  refine D.mid (cs := [10]) [1, 2, 6, 7, 8] [3] [] [] (by kernel_rfl) (by kernel_rfl) (⟨QuAt.mk (v := .pointer (some ⟨p10_3.1, p10_3.2.1 + s3.2.1.toNat * 5, none⟩)) (some 40) (by kernel_rfl) (by kernel_rfl) (Qu.idx (t := 49) (x := .tmp 38) (y := .tmp 39) (c := h1.2) (kk := .i64) (sz := 5) (by kernel_rfl) (by kernel_rfl) (by kernel_rfl) (by kernel_rfl) hx10_3a (idx_lt hx10_3) hp10_3A), trivial⟩) (by kernel_rfl) ⟨?_, trivial⟩
                  refine EvStep.mk none (new := fun _ => [(11, some 8, .int .i64 x10_5.2)]) ([8, 11] ++ []) (by kernel_rfl) (Ev.store (kk := 0) (cs := [.slice p10_5.1 x10_5.1.f0.length p10_5.2]) (0, 0) [p10_9, 0] (by kernel_rfl)) (fun _ => by kernel_rfl) (fun _ => ?_)
                  refine D.fin (fr' := [(1, .slice h1.1 a1.length h1.2), (2, .pointer (some ⟨p0_0, 0, none⟩)), (5, .slice g3.1.1 s3.1.length g3.1.2), (6, .int .i64 s3.2.1), (7, .pointer (some ⟨p10_9, 0, none⟩)), (8, .int .i64 x10_5.2), (26, .int .i64 s3.2.1), (27, .bool (decide (s3.2.1 < 30)))]) [8, 11] [] [] [] [1, 2, 5, 6, 7, 8, 26, 27] (by kernel_rfl) (by kernel_rfl) trivial (by kernel_rfl) ?_
                  exact J.conv2 [1, 2, 5, 6, 7, 8, 26, 27] [0, 1, 2, 3, 4, 5, 6, 7, 8] [0, 1] [] (by kernel_rfl) (by kernel_rfl) (by kernel_rfl) (by kernel_rfl) (by decide) (hk_ (p10_5, p10_9))
                · refine EvStep.mk (some 7) (new := fun p10_9 => []) ([0, 1, 2, 4] ++ [3]) (by kernel_rfl) (Ev.alloc (t := 24) (z := .agg #[.slice none 0 0]) (by kernel_rfl) (by kernel_rfl)) (fun p10_9 => by kernel_rfl) (fun p10_9 => ?_)
                  refine D.mid (cs := [5]) [0, 1, 2, 4] [3] [(1, 0), (2, 0)] [p0_0, 0, p10_3.1, p10_3.2.1 + s3.2.1.toNat * 5] (by kernel_rfl) (by kernel_rfl) (⟨QuAt.mk (v := .pointer (some ⟨p10_3.1, p10_3.2.1 + s3.2.1.toNat * 5, none⟩)) (some 40) (by kernel_rfl) (by kernel_rfl) (Qu.idx (t := 49) (x := .tmp 38) (y := .tmp 39) (c := h1.2) (kk := .i64) (sz := 5) (by kernel_rfl) (by kernel_rfl) (by kernel_rfl) (by kernel_rfl) hx10_3a (idx_lt hx10_3) hp10_3A), trivial⟩) (by kernel_rfl) ⟨?_, trivial⟩
                  refine EvStep.mk (some 42) (new := fun p10_5 => [(6, some 36, .tuple #[.agg #[.slice p10_5.1 x10_5.1.f0.length p10_5.2], .int .i64 x10_5.2]), (7, some 43, .agg #[.slice p10_5.1 x10_5.1.f0.length p10_5.2]), (8, some 44, .int .i64 x10_5.2)]) ([1, 2, 6, 7, 8] ++ [3]) (by kernel_rfl) (Ev.call0 (xs := [.tmp 37, .tmp 41]) [5, 0, 1] (by kernel_rfl) (by kernel_rfl) (fun w hS => haywainlaw13_do.con K (⟨s3.2.2⟩ : S24) x10_3 g3.2 p10_3.2.2.1 p10_3.2.2.2  _ _ w hS hx10_5)) (fun p10_5 => by kernel_rfl) (fun p10_5 => ?_)
                  refine D.mid (cs := [10]) [1, 2, 6, 7, 8] [3] [] [] (by kernel_rfl) (by kernel_rfl) (⟨QuAt.mk (v := .pointer (some ⟨p10_3.1, p10_3.2.1 + s3.2.1.toNat * 5, none⟩)) (some 40) (by kernel_rfl) (by kernel_rfl) (Qu.idx (t := 49) (x := .tmp 38) (y := .tmp 39) (c := h1.2) (kk := .i64) (sz := 5) (by kernel_rfl) (by kernel_rfl) (by kernel_rfl) (by kernel_rfl) hx10_3a (idx_lt hx10_3) hp10_3A), trivial⟩) (by kernel_rfl) ⟨?_, trivial⟩
                  refine EvStep.mk none (new := fun _ => [(11, some 8, .int .i64 x10_5.2)]) ([8, 11] ++ []) (by kernel_rfl) (Ev.store (kk := 0) (cs := [.slice p10_5.1 x10_5.1.f0.length p10_5.2]) (0, 0) [p10_9, 0] (by kernel_rfl)) (fun _ => by kernel_rfl) (fun _ => ?_)
                  refine D.fin (fr' := [(1, .slice h1.1 a1.length h1.2), (2, .pointer (some ⟨p0_0, 0, none⟩)), (5, .slice g3.1.1 s3.1.length g3.1.2), (6, .int .i64 s3.2.1), (7, .pointer (some ⟨p10_9, 0, none⟩)), (8, .int .i64 x10_5.2), (26, .int .i64 s3.2.1), (27, .bool (decide (s3.2.1 < 30)))]) [8, 11] [] [] [] [1, 2, 5, 6, 7, 8, 26, 27] (by kernel_rfl) (by kernel_rfl) trivial (by kernel_rfl) ?_
                  exact J.conv2 [1, 2, 5, 6, 7, 8, 26, 27] [0, 1, 2, 3, 4, 5, 6, 7, 8] [0, 1] [] (by kernel_rfl) (by kernel_rfl) (by kernel_rfl) (by kernel_rfl) (by decide) (hk_ (p10_5, p10_9))
          · refine J.condF (x := .tmp 28) (t := (decide (s3.2.1 < 30))) (by kernel_rfl) (by kernel_rfl) hc14 ?_
            refine J.exit (id := 0) (by kernel_rfl) rfl ?_
            refine J.seq (by kernel_rfl) ?_
            obtain ⟨x15_0, hx15_0, H⟩ := bindE H
            refine J.region (by kernel_rfl) ?_
            refine O.e (some 66) (Ev.call0 (xs := []) [] (by kernel_rfl) (by kernel_rfl) (fun w hS => haywainlaw13_knows.con K  _ _ w hS hx15_0)) (by kernel_rfl) (fun _ => ?_)
            refine O.pure 1 [] [4] [] (fr' := [(4, .bool x15_0)]) (bx' := [⟨p0_0, [.slice g3.2.1 s3.2.2.length g3.2.2], 24⟩]) (by kernel_rfl) ?_
            refine O.nil (by kernel_rfl) ?_
            obtain rfl := Option.some.inj H
            exact J.doneS [] [] [] [] [] () (vs := [.bool x15_0]) (by kernel_rfl) (by kernel_rfl) (by kernel_rfl) (by kernel_rfl) (by kernel_rfl) (by decide)
        · refine J.region (by kernel_rfl) ?_
          refine O.pure 3 [] [1, 2, 5, 6, 21, 23] [] (fr' := [(1, .slice h1.1 a1.length h1.2), (2, .pointer (some ⟨p0_0, 0, none⟩)), (5, .slice g3.1.1 s3.1.length g3.1.2), (6, .int .i64 s3.2.1), (21, .int .i64 s3.2.1), (23, .int .i64 (a1.length : Int))]) (bx' := [⟨p0_0, [.slice g3.2.1 s3.2.2.length g3.2.2], 24⟩]) (by kernel_rfl) ?_
          refine O.q (v := .bool false) (some 24) (Qu.eqv (u := .bool (decide (s3.2.1 < (a1.length : Int)))) (v := .bool false) (0, 0) [] (by kernel_rfl) (congrArg Value.bool hc13)) (by kernel_rfl) ?_
          refine O.pure 4 [] [1, 2, 5, 6, 26, 27, 28] [] (fr' := [(1, .slice h1.1 a1.length h1.2), (2, .pointer (some ⟨p0_0, 0, none⟩)), (5, .slice g3.1.1 s3.1.length g3.1.2), (6, .int .i64 s3.2.1), (26, undef), (27, undef), (28, .bool false)]) (bx' := [⟨p0_0, [.slice g3.2.1 s3.2.2.length g3.2.2], 24⟩]) (by kernel_rfl) ?_
          refine O.nil (by kernel_rfl) ?_
          refine J.cond (o := .tmp 28) false (by kernel_rfl) (by kernel_rfl) ?_
          refine J.exit (id := 0) (by kernel_rfl) rfl ?_
          refine J.seq (by kernel_rfl) ?_
          obtain ⟨x15_0, hx15_0, H⟩ := bindE H
          refine J.region (by kernel_rfl) ?_
          refine O.e (some 66) (Ev.call0 (xs := []) [] (by kernel_rfl) (by kernel_rfl) (fun w hS => haywainlaw13_knows.con K  _ _ w hS hx15_0)) (by kernel_rfl) (fun _ => ?_)
          refine O.pure 1 [] [4] [] (fr' := [(4, .bool x15_0)]) (bx' := [⟨p0_0, [.slice g3.2.1 s3.2.2.length g3.2.2], 24⟩]) (by kernel_rfl) ?_
          refine O.nil (by kernel_rfl) ?_
          obtain rfl := Option.some.inj H
          exact J.doneS [] [] [] [] [] () (vs := [.bool x15_0]) (by kernel_rfl) (by kernel_rfl) (by kernel_rfl) (by kernel_rfl) (by kernel_rfl) (by decide)
      · refine J.mono (fun w hS => hS.freezeH (h := p3_1) (xs := x3_1)) ?_
        exact J.conv2 [1, 2, 5, 6] [0, 1, 1, 2] [0] [] (by kernel_rfl) (by kernel_rfl) (by kernel_rfl) (by kernel_rfl) (by decide) h_
def haywainlaw13_DiskPlays.Pure : Prop := ∀ (a0 : S24) (a1 : List S52), (wf24 a0) → (a1.length * 80 ≤ 140737488351232 ∧ ∀ x_ ∈ a1, wf52 x_) → ∃ K, haywainlaw13_DiskPlays.f K a0 a1 = some true
end Go.Proofs.Ytfgdceeceehmpaa.G
