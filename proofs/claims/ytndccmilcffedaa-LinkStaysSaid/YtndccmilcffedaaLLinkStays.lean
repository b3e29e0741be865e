/- The law LinkStays as plain Lean, with its contract; printed by a program of this session. -/
import Derived.Test.YtndccmilcffedaaG1
set_option linter.unusedVariables false
set_option linter.unusedSimpArgs false
namespace Go.Proofs.Ytndccmilcffedaa.G
open Go Go.RowKit Go.Hw
/-! ### haywain/haywainlaw16.LinkStays: function 4 -/
def haywainlaw16_LinkStays.l2 (K : Nat) (a1 : List S39) : Nat → (Int × Int × Int × Int × (List S71) × Bool) → Option Bool
  | 0, _ => none
  | k + 1, s2 => cond (decide (s2.1 < (a1.length : Int))) (cond (decide (s2.1 < 60)) ((idxO a1 s2.1).bind fun x6_2 => (cond (x6_2.f0 == 0) ((idxO a1 s2.1).bind fun x9_3 => (link_Send.f K (⟨s2.2.1, s2.2.2.1, s2.2.2.2.1, s2.2.2.2.2.1, s2.2.2.2.2.2⟩ : S24) x9_3.f1.f2).bind fun x9_7 => some ((x9_7.1.f0, x9_7.1.f1, x9_7.1.f2, x9_7.1.f3, x9_7.1.f4))) (cond (x6_2.f0 == 1) ((link_Tick.f K (⟨s2.2.1, s2.2.2.1, s2.2.2.2.1, s2.2.2.2.2.1, s2.2.2.2.2.2⟩ : S24)).bind fun x11_1 => some ((x11_1.1.f0, x11_1.1.f1, x11_1.1.f2, x11_1.1.f3, x11_1.1.f4))) ((idxO a1 s2.1).bind fun x7_3 => (link_Take.f K (⟨s2.2.1, s2.2.2.1, s2.2.2.2.1, s2.2.2.2.2.1, s2.2.2.2.2.2⟩ : S24) x7_3.f1).bind fun x7_6 => some ((x7_6.1.f0, x7_6.1.f1, x7_6.1.f2, x7_6.1.f3, x7_6.1.f4)))) : Option (Int × Int × Int × (List S71) × Bool)).bind fun o24 : Int × Int × Int × (List S71) × Bool => (link_Right.f K (⟨o24.1, o24.2.1, o24.2.2.1, o24.2.2.2.1, o24.2.2.2.2⟩ : S24)).bind fun x12_1 => cond (!x12_1) (some (false)) ((haywainlaw16_as.f K (⟨o24.1, o24.2.1, o24.2.2.1, o24.2.2.2.1, o24.2.2.2.2⟩ : S24)).bind fun x12_5 => (haywainref16_Right.f K x12_5).bind fun x12_6 => cond (!x12_6) (some (false)) (cond (decide ((o24.2.2.2.1.length : Int) > 200)) (some (false)) (haywainlaw16_LinkStays.l2 K a1 k ((IntKind.wrap .i64 (s2.1 + 1)), o24.1, o24.2.1, o24.2.2.1, o24.2.2.2.1, o24.2.2.2.2))))) ((haywainlaw16_knows.f K).bind fun x14_0 => some (x14_0))) ((haywainlaw16_knows.f K).bind fun x14_0 => some (x14_0))
def haywainlaw16_LinkStays.f (K : Nat) (a0 : S24) (a1 : List S39) : Option Bool := cond (decide ((a0.f3.length : Int) > 300)) ((haywainlaw16_knows.f K).bind fun x2_0 => some (x2_0)) (haywainlaw16_LinkStays.l2 K a1 K (0, a0.f0, a0.f1, a0.f2, a0.f3, a0.f4))
set_option maxRecDepth 100000 in
set_option maxHeartbeats 1000000 in
theorem haywainlaw16_LinkStays.con (K : Nat) (a0 : S24) (a1 : List S39) (h0 : Hd) (h1 : Hd) (r : Bool) (X : Nat → Nat → Prop) (w : World) (hS : St X w [] [] [] [] [Rd kd71 h0.1 h0.2 a0.f3, Rd kd39 h1.1 h1.2 a1] w) (H : haywainlaw16_LinkStays.f K a0 a1 = some r) :
    Cn Try.prog 4 [.agg #[.int .i64 a0.f0, .int .i64 a0.f1, .int .i64 a0.f2, .slice h0.1 a0.f3.length h0.2, .bool a0.f4], .slice h1.1 a1.length h1.2] X w [] (fun i : Unit => .bool r) (fun i => []) (fun i => []) (fun i => []) := by
  refine Cn.of Try.func4 (by kernel_rfl) hS ?_
  unfold haywainlaw16_LinkStays.f at H
  refine J.seq (by kernel_rfl) ?_
  refine J.region (by kernel_rfl) ?_
  refine O.e (some 2) (Ev.box (t := 24) (x := .tmp 0) (v := .agg #[.int .i64 a0.f0, .int .i64 a0.f1, .int .i64 a0.f2, .slice h0.1 a0.f3.length h0.2, .bool a0.f4]) (by kernel_rfl) (by kernel_rfl)) (by kernel_rfl) (fun p0_0 => ?_)
  refine O.pure 1 [] [1, 2] [] (fr' := [(1, .slice h1.1 a1.length h1.2), (2, .pointer (some ⟨p0_0, 0, none⟩))]) (bx' := [⟨p0_0, [.int .i64 a0.f0, .int .i64 a0.f1, .int .i64 a0.f2, .slice h0.1 a0.f3.length h0.2, .bool a0.f4], 24⟩]) (by kernel_rfl) ?_
  refine O.nil (by kernel_rfl) ?_
  refine J.seq (by kernel_rfl) ?_
  refine J.seq (by kernel_rfl) ?_
  refine J.region (by kernel_rfl) ?_
  refine O.pure 4 [(0, 3)] [1, 2, 9] [p0_0, 3] (fr' := [(1, .slice h1.1 a1.length h1.2), (2, .pointer (some ⟨p0_0, 0, none⟩)), (9, .bool (decide ((a0.f3.length : Int) > 300)))]) (bx' := [⟨p0_0, [.int .i64 a0.f0, .int .i64 a0.f1, .int .i64 a0.f2, .slice h0.1 a0.f3.length h0.2, .bool a0.f4], 24⟩]) (by kernel_rfl) ?_
  refine O.nil (by kernel_rfl) ?_
  rcases condE H with ⟨hc1, H⟩ | ⟨hc1, H⟩
  · refine J.condT (x := .tmp 9) (t := (decide ((a0.f3.length : Int) > 300))) (by kernel_rfl) (by kernel_rfl) hc1 ?_
    refine J.seq (by kernel_rfl) ?_
    obtain ⟨x2_0, hx2_0, H⟩ := bindE H
    refine J.region (by kernel_rfl) ?_
    refine O.e (some 10) (Ev.call0 (xs := []) [] (by kernel_rfl) (by kernel_rfl) (fun w hS => haywainlaw16_knows.con K  _ _ w hS hx2_0)) (by kernel_rfl) (fun _ => ?_)
    refine O.pure 1 [] [4] [] (fr' := [(4, .bool x2_0)]) (bx' := [⟨p0_0, [.int .i64 a0.f0, .int .i64 a0.f1, .int .i64 a0.f2, .slice h0.1 a0.f3.length h0.2, .bool a0.f4], 24⟩]) (by kernel_rfl) ?_
    refine O.nil (by kernel_rfl) ?_
    obtain rfl := Option.some.inj H
    exact J.doneS [] [] [] [] [] () (vs := [.bool x2_0]) (by kernel_rfl) (by kernel_rfl) (by kernel_rfl) (by kernel_rfl) (by kernel_rfl) (by decide)
  · refine J.condF (x := .tmp 9) (t := (decide ((a0.f3.length : Int) > 300))) (by kernel_rfl) (by kernel_rfl) hc1 ?_
    refine J.skip (by kernel_rfl) ?_
    refine J.seq (by kernel_rfl) ?_
    refine J.seq (by kernel_rfl) ?_
    refine J.region (by kernel_rfl) ?_
    refine O.pure 1 [] [1, 2, 5] [] (fr' := [(1, .slice h1.1 a1.length h1.2), (2, .pointer (some ⟨p0_0, 0, none⟩)), (5, .int .i64 0)]) (bx' := [⟨p0_0, [.int .i64 a0.f0, .int .i64 a0.f1, .int .i64 a0.f2, .slice h0.1 a0.f3.length h0.2, .bool a0.f4], 24⟩]) (by kernel_rfl) ?_
    refine O.nil (by kernel_rfl) ?_
    refine J.block (id := 0) (by kernel_rfl) ?_
    refine J.loopI (σ := Int × Int × Int × Int × (List S71) × Bool) (γ := Hd) (f := fun m_ s_ => haywainlaw16_LinkStays.l2 K a1 m_ s_) (fun s2 g2 => [(1, .slice h1.1 a1.length h1.2), (2, .pointer (some ⟨p0_0, 0, none⟩)), (5, .int .i64 s2.1)]) (fun s2 g2 => St X w [] [⟨p0_0, [.int .i64 s2.2.1, .int .i64 s2.2.2.1, .int .i64 s2.2.2.2.1, .slice g2.1 s2.2.2.2.2.1.length g2.2, .bool s2.2.2.2.2.2], 24⟩] [] [] [Rd kd71 g2.1 g2.2 s2.2.2.2.2.1, Rd kd71 h0.1 h0.2 a0.f3, Rd kd39 h1.1 h1.2 a1]) K (0, a0.f0, a0.f1, a0.f2, a0.f3, a0.f4) h0 (by kernel_rfl) H (fun _ => rfl) (fun m_ s2 H ih2 g2 => ?_) (fun h_ => ?_)
    · unfold haywainlaw16_LinkStays.l2 at H
      refine J.seq (by kernel_rfl) ?_
      refine J.seq (by kernel_rfl) ?_
      rcases condE H with ⟨hc22, H⟩ | ⟨hc22, H⟩
      · refine J.region (by kernel_rfl) ?_
        refine O.pure 3 [] [1, 2, 5, 11, 13] [] (fr' := [(1, .slice h1.1 a1.length h1.2), (2, .pointer (some ⟨p0_0, 0, none⟩)), (5, .int .i64 s2.1), (11, .int .i64 s2.1), (13, .int .i64 (a1.length : Int))]) (bx' := [⟨p0_0, [.int .i64 s2.2.1, .int .i64 s2.2.2.1, .int .i64 s2.2.2.2.1, .slice g2.1 s2.2.2.2.2.1.length g2.2, .bool s2.2.2.2.2.2], 24⟩]) (by kernel_rfl) ?_
        refine O.q (v := .bool true) (some 14) (Qu.eqv (u := .bool (decide (s2.1 < (a1.length : Int)))) (v := .bool true) (0, 0) [] (by kernel_rfl) (congrArg Value.bool hc22)) (by kernel_rfl) ?_
        refine O.pure 4 [] [1, 2, 5, 16, 17, 18] [] (fr' := [(1, .slice h1.1 a1.length h1.2), (2, .pointer (some ⟨p0_0, 0, none⟩)), (5, .int .i64 s2.1), (16, .int .i64 s2.1), (17, .bool (decide (s2.1 < 60))), (18, .bool (decide (s2.1 < 60)))]) (bx' := [⟨p0_0, [.int .i64 s2.2.1, .int .i64 s2.2.2.1, .int .i64 s2.2.2.2.1, .slice g2.1 s2.2.2.2.2.1.length g2.2, .bool s2.2.2.2.2.2], 24⟩]) (by kernel_rfl) ?_
        refine O.nil (by kernel_rfl) ?_
        rcases condE H with ⟨hc23, H⟩ | ⟨hc23, H⟩
        · refine J.condT (x := .tmp 18) (t := (decide (s2.1 < 60))) (by kernel_rfl) (by kernel_rfl) hc23 ?_
          refine J.skip (by kernel_rfl) ?_
          refine J.seq (by kernel_rfl) ?_
          refine J.block (id := 1) (by kernel_rfl) ?_
          refine J.seq (by kernel_rfl) ?_
          refine J.seq (by kernel_rfl) ?_
          obtain ⟨x6_2, hx6_2, H⟩ := bindE H
          obtain ⟨hx6_2a, hx6_2⟩ := idxE hx6_2
          refine J.region (by kernel_rfl) ?_
          refine O.pure 2 [] [1, 2, 5, 16, 17, 21, 22] [] (fr' := [(1, .slice h1.1 a1.length h1.2), (2, .pointer (some ⟨p0_0, 0, none⟩)), (5, .int .i64 s2.1), (16, .int .i64 s2.1), (17, .bool (decide (s2.1 < 60))), (21, .slice h1.1 a1.length h1.2), (22, .int .i64 s2.1)]) (bx' := [⟨p0_0, [.int .i64 s2.2.1, .int .i64 s2.2.2.1, .int .i64 s2.2.2.2.1, .slice g2.1 s2.2.2.2.2.1.length g2.2, .bool s2.2.2.2.2.2], 24⟩]) (by kernel_rfl) ?_
          refine O.open (d := kd39) (h := h1) (i := s2.1) 2 rfl hx6_2 (op39 _) (fun p6_2 hp6_2A => ?_)
          refine O.q (v := .pointer (some ⟨p6_2.1, p6_2.2.1 + s2.1.toNat * 4, none⟩)) (some 23) (Qu.idx (t := 25) (x := .tmp 21) (y := .tmp 22) (c := h1.2) (kk := .i64) (sz := 4) (by kernel_rfl) (by kernel_rfl) (by kernel_rfl) (by kernel_rfl) hx6_2a (idx_lt hx6_2) hp6_2A) (by kernel_rfl) ?_
          refine O.pure 2 [(1, 0)] [1, 2, 5, 16, 17, 25] [p6_2.1, p6_2.2.1 + s2.1.toNat * 4] (fr' := [(1, .slice h1.1 a1.length h1.2), (2, .pointer (some ⟨p0_0, 0, none⟩)), (5, .int .i64 s2.1), (16, .int .i64 s2.1), (17, .bool (decide (s2.1 < 60))), (25, .int .i64 x6_2.f0)]) (bx' := [⟨p0_0, [.int .i64 s2.2.1, .int .i64 s2.2.2.1, .int .i64 s2.2.2.2.1, .slice g2.1 s2.2.2.2.2.1.length g2.2, .bool s2.2.2.2.2.2], 24⟩]) (by kernel_rfl) ?_
          refine O.nil (by kernel_rfl) ?_
          refine J.block (id := 2) (by kernel_rfl) ?_
          refine J.seq (by kernel_rfl) ?_
          refine J.region (by kernel_rfl) ?_
          refine O.pure 2 [] [1, 2, 5, 16, 17, 25, 37] [] (fr' := [(1, .slice h1.1 a1.length h1.2), (2, .pointer (some ⟨p0_0, 0, none⟩)), (5, .int .i64 s2.1), (16, .int .i64 s2.1), (17, .bool (decide (s2.1 < 60))), (25, .int .i64 x6_2.f0), (37, .bool (x6_2.f0 == 0))]) (bx' := [⟨p0_0, [.int .i64 s2.2.1, .int .i64 s2.2.2.1, .int .i64 s2.2.2.2.1, .slice g2.1 s2.2.2.2.2.1.length g2.2, .bool s2.2.2.2.2.2], 24⟩]) (by kernel_rfl) ?_
          refine O.nil (by kernel_rfl) ?_
          refine J.join (α := Int × Int × Int × (List S71) × Bool) (γ := Hd) (fun o24 q24 => [(1, .slice h1.1 a1.length h1.2), (2, .pointer (some ⟨p0_0, 0, none⟩)), (5, .int .i64 s2.1), (16, .int .i64 s2.1), (17, .bool (decide (s2.1 < 60)))]) (fun o24 q24 => St X w [] [⟨p0_0, [.int .i64 o24.1, .int .i64 o24.2.1, .int .i64 o24.2.2.1, .slice q24.1 o24.2.2.2.1.length q24.2, .bool o24.2.2.2.2], 24⟩] [] [] [Rd kd71 q24.1 q24.2 o24.2.2.2.1, Rd kd71 h0.1 h0.2 a0.f3, Rd kd39 h1.1 h1.2 a1]) H (fun o24 q24 H => ?_) (fun o24 H hj24 => ?_)
          · refine J.out ?_
            refine J.seq (by kernel_rfl) ?_
            obtain ⟨x12_1, hx12_1, H⟩ := bindE H
            rcases condE H with ⟨hc27, H⟩ | ⟨hc27, H⟩
            · refine J.region (by kernel_rfl) ?_
              refine O.pure 1 [(0, 0)] [1, 2, 5, 16, 17, 57] [p0_0, 0] (fr' := [(1, .slice h1.1 a1.length h1.2), (2, .pointer (some ⟨p0_0, 0, none⟩)), (5, .int .i64 s2.1), (16, .int .i64 s2.1), (17, .bool (decide (s2.1 < 60))), (57, .agg #[.int .i64 o24.1, .int .i64 o24.2.1, .int .i64 o24.2.2.1, .slice q24.1 o24.2.2.2.1.length q24.2, .bool o24.2.2.2.2])]) (bx' := [⟨p0_0, [.int .i64 o24.1, .int .i64 o24.2.1, .int .i64 o24.2.2.1, .slice q24.1 o24.2.2.2.1.length q24.2, .bool o24.2.2.2.2], 24⟩]) (by kernel_rfl) ?_
              refine O.e (some 58) (Ev.call0 (xs := [.tmp 57]) [0] (by kernel_rfl) (by kernel_rfl) (fun w hS => link_Right.con K (⟨o24.1, o24.2.1, o24.2.2.1, o24.2.2.2.1, o24.2.2.2.2⟩ : S24) q24  _ _ w hS hx12_1)) (by kernel_rfl) (fun _ => ?_)
              refine O.q (v := .bool true) (some 59) (Qu.eqv (u := .bool (!x12_1)) (v := .bool true) (0, 0) [] (by kernel_rfl) (congrArg Value.bool hc27)) (by kernel_rfl) ?_
              refine O.pure 12 [] [1, 2, 5, 16, 17, 61, 62, 63, 64, 67, 68, 69, 70, 71] [] (fr' := [(1, .slice h1.1 a1.length h1.2), (2, .pointer (some ⟨p0_0, 0, none⟩)), (5, .int .i64 s2.1), (16, .int .i64 s2.1), (17, .bool (decide (s2.1 < 60))), (61, undef), (62, undef), (63, undef), (64, undef), (67, undef), (68, undef), (69, undef), (70, undef), (71, .bool true)]) (bx' := [⟨p0_0, [.int .i64 o24.1, .int .i64 o24.2.1, .int .i64 o24.2.2.1, .slice q24.1 o24.2.2.2.1.length q24.2, .bool o24.2.2.2.2], 24⟩]) (by kernel_rfl) ?_
              refine O.nil (by kernel_rfl) ?_
              refine J.cond (o := .tmp 71) true (by kernel_rfl) (by kernel_rfl) ?_
              refine J.seq (by kernel_rfl) ?_
              refine J.region (by kernel_rfl) ?_
              refine O.pure 1 [] [4] [] (fr' := [(4, .bool false)]) (bx' := [⟨p0_0, [.int .i64 o24.1, .int .i64 o24.2.1, .int .i64 o24.2.2.1, .slice q24.1 o24.2.2.2.1.length q24.2, .bool o24.2.2.2.2], 24⟩]) (by kernel_rfl) ?_
              refine O.nil (by kernel_rfl) ?_
              obtain rfl := Option.some.inj H
              exact J.doneS [] [] [] [] [] () (vs := [.bool false]) (by kernel_rfl) (by kernel_rfl) (by kernel_rfl) (by kernel_rfl) (by kernel_rfl) (by decide)
            · obtain ⟨x12_5, hx12_5, H⟩ := bindE H
              obtain ⟨x12_6, hx12_6, H⟩ := bindE H
              rcases condE H with ⟨hc28, H⟩ | ⟨hc28, H⟩
              · refine J.region (by kernel_rfl) ?_
                refine O.pure 1 [(0, 0)] [1, 2, 5, 16, 17, 57] [p0_0, 0] (fr' := [(1, .slice h1.1 a1.length h1.2), (2, .pointer (some ⟨p0_0, 0, none⟩)), (5, .int .i64 s2.1), (16, .int .i64 s2.1), (17, .bool (decide (s2.1 < 60))), (57, .agg #[.int .i64 o24.1, .int .i64 o24.2.1, .int .i64 o24.2.2.1, .slice q24.1 o24.2.2.2.1.length q24.2, .bool o24.2.2.2.2])]) (bx' := [⟨p0_0, [.int .i64 o24.1, .int .i64 o24.2.1, .int .i64 o24.2.2.1, .slice q24.1 o24.2.2.2.1.length q24.2, .bool o24.2.2.2.2], 24⟩]) (by kernel_rfl) ?_
                refine O.e (some 58) (Ev.call0 (xs := [.tmp 57]) [0] (by kernel_rfl) (by kernel_rfl) (fun w hS => link_Right.con K (⟨o24.1, o24.2.1, o24.2.2.1, o24.2.2.2.1, o24.2.2.2.2⟩ : S24) q24  _ _ w hS hx12_1)) (by kernel_rfl) (fun _ => ?_)
                refine O.q (v := .bool false) (some 59) (Qu.eqv (u := .bool (!x12_1)) (v := .bool false) (0, 0) [] (by kernel_rfl) (congrArg Value.bool hc27)) (by kernel_rfl) ?_
                refine O.pure 2 [(0, 0)] [1, 2, 5, 16, 17, 60, 61] [p0_0, 0] (fr' := [(1, .slice h1.1 a1.length h1.2), (2, .pointer (some ⟨p0_0, 0, none⟩)), (5, .int .i64 s2.1), (16, .int .i64 s2.1), (17, .bool (decide (s2.1 < 60))), (60, .bool false), (61, .agg #[.int .i64 o24.1, .int .i64 o24.2.1, .int .i64 o24.2.2.1, .slice q24.1 o24.2.2.2.1.length q24.2, .bool o24.2.2.2.2])]) (bx' := [⟨p0_0, [.int .i64 o24.1, .int .i64 o24.2.1, .int .i64 o24.2.2.1, .slice q24.1 o24.2.2.2.1.length q24.2, .bool o24.2.2.2.2], 24⟩]) (by kernel_rfl) ?_
                refine O.e (some 62) (Ev.call0 (xs := [.tmp 61]) [0] (by kernel_rfl) (by kernel_rfl) (fun w hS => haywainlaw16_as.con K (⟨o24.1, o24.2.1, o24.2.2.1, o24.2.2.2.1, o24.2.2.2.2⟩ : S24) q24  _ _ w hS hx12_5)) (by kernel_rfl) (fun p12_5 => ?_)
                refine O.e (some 63) (Ev.mono (fun w hS => hS.freezeH) (Ev.call0 (xs := [.tmp 62]) [0] (by kernel_rfl) (by kernel_rfl) (fun w hS => haywainref16_Right.con K x12_5 p12_5  _ _ w hS hx12_6))) (by kernel_rfl) (fun _ => ?_)
                refine O.q (v := .bool true) (some 64) (Qu.eqv (u := .bool (!x12_6)) (v := .bool true) (0, 0) [] (by kernel_rfl) (congrArg Value.bool hc28)) (by kernel_rfl) ?_
                refine O.pure 7 [] [1, 2, 5, 16, 17, 61, 62, 63, 64, 67, 68, 69, 70, 71] [] (fr' := [(1, .slice h1.1 a1.length h1.2), (2, .pointer (some ⟨p0_0, 0, none⟩)), (5, .int .i64 s2.1), (16, .int .i64 s2.1), (17, .bool (decide (s2.1 < 60))), (61, .agg #[.int .i64 o24.1, .int .i64 o24.2.1, .int .i64 o24.2.2.1, .slice q24.1 o24.2.2.2.1.length q24.2, .bool o24.2.2.2.2]), (62, .agg #[.int .i64 x12_5.f0, .int .i64 x12_5.f1, .int .i64 x12_5.f2, .slice p12_5.1 x12_5.f3.length p12_5.2, .bool x12_5.f4]), (63, .bool x12_6), (64, .bool true), (67, undef), (68, undef), (69, undef), (70, undef), (71, .bool true)]) (bx' := [⟨p0_0, [.int .i64 o24.1, .int .i64 o24.2.1, .int .i64 o24.2.2.1, .slice q24.1 o24.2.2.2.1.length q24.2, .bool o24.2.2.2.2], 24⟩]) (by kernel_rfl) ?_
                refine O.nil (by kernel_rfl) ?_
                refine J.cond (o := .tmp 71) true (by kernel_rfl) (by kernel_rfl) ?_
                refine J.seq (by kernel_rfl) ?_
                refine J.region (by kernel_rfl) ?_
                refine O.pure 1 [] [4] [] (fr' := [(4, .bool false)]) (bx' := [⟨p0_0, [.int .i64 o24.1, .int .i64 o24.2.1, .int .i64 o24.2.2.1, .slice q24.1 o24.2.2.2.1.length q24.2, .bool o24.2.2.2.2], 24⟩]) (by kernel_rfl) ?_
                refine O.nil (by kernel_rfl) ?_
                obtain rfl := Option.some.inj H
                exact J.doneS [] [] [] [] [] () (vs := [.bool false]) (by kernel_rfl) (by kernel_rfl) (by kernel_rfl) (by kernel_rfl) (by kernel_rfl) (by decide)
              · refine J.region (by kernel_rfl) ?_
                refine O.pure 1 [(0, 0)] [1, 2, 5, 16, 17, 57] [p0_0, 0] (fr' := [(1, .slice h1.1 a1.length h1.2), (2, .pointer (some ⟨p0_0, 0, none⟩)), (5, .int .i64 s2.1), (16, .int .i64 s2.1), (17, .bool (decide (s2.1 < 60))), (57, .agg #[.int .i64 o24.1, .int .i64 o24.2.1, .int .i64 o24.2.2.1, .slice q24.1 o24.2.2.2.1.length q24.2, .bool o24.2.2.2.2])]) (bx' := [⟨p0_0, [.int .i64 o24.1, .int .i64 o24.2.1, .int .i64 o24.2.2.1, .slice q24.1 o24.2.2.2.1.length q24.2, .bool o24.2.2.2.2], 24⟩]) (by kernel_rfl) ?_
                refine O.e (some 58) (Ev.call0 (xs := [.tmp 57]) [0] (by kernel_rfl) (by kernel_rfl) (fun w hS => link_Right.con K (⟨o24.1, o24.2.1, o24.2.2.1, o24.2.2.2.1, o24.2.2.2.2⟩ : S24) q24  _ _ w hS hx12_1)) (by kernel_rfl) (fun _ => ?_)
                refine O.q (v := .bool false) (some 59) (Qu.eqv (u := .bool (!x12_1)) (v := .bool false) (0, 0) [] (by kernel_rfl) (congrArg Value.bool hc27)) (by kernel_rfl) ?_
                refine O.pure 2 [(0, 0)] [1, 2, 5, 16, 17, 60, 61] [p0_0, 0] (fr' := [(1, .slice h1.1 a1.length h1.2), (2, .pointer (some ⟨p0_0, 0, none⟩)), (5, .int .i64 s2.1), (16, .int .i64 s2.1), (17, .bool (decide (s2.1 < 60))), (60, .bool false), (61, .agg #[.int .i64 o24.1, .int .i64 o24.2.1, .int .i64 o24.2.2.1, .slice q24.1 o24.2.2.2.1.length q24.2, .bool o24.2.2.2.2])]) (bx' := [⟨p0_0, [.int .i64 o24.1, .int .i64 o24.2.1, .int .i64 o24.2.2.1, .slice q24.1 o24.2.2.2.1.length q24.2, .bool o24.2.2.2.2], 24⟩]) (by kernel_rfl) ?_
                refine O.e (some 62) (Ev.call0 (xs := [.tmp 61]) [0] (by kernel_rfl) (by kernel_rfl) (fun w hS => haywainlaw16_as.con K (⟨o24.1, o24.2.1, o24.2.2.1, o24.2.2.2.1, o24.2.2.2.2⟩ : S24) q24  _ _ w hS hx12_5)) (by kernel_rfl) (fun p12_5 => ?_)
                refine O.e (some 63) (Ev.mono (fun w hS => hS.freezeH) (Ev.call0 (xs := [.tmp 62]) [0] (by kernel_rfl) (by kernel_rfl) (fun w hS => haywainref16_Right.con K x12_5 p12_5  _ _ w hS hx12_6))) (by kernel_rfl) (fun _ => ?_)
                refine O.q (v := .bool false) (some 64) (Qu.eqv (u := .bool (!x12_6)) (v := .bool false) (0, 0) [] (by kernel_rfl) (congrArg Value.bool hc28)) (by kernel_rfl) ?_
                refine O.pure 7 [(0, 3)] [1, 2, 5, 16, 17, 61, 62, 63, 64, 67, 68, 69, 70, 71] [p0_0, 3] (fr' := [(1, .slice h1.1 a1.length h1.2), (2, .pointer (some ⟨p0_0, 0, none⟩)), (5, .int .i64 s2.1), (16, .int .i64 s2.1), (17, .bool (decide (s2.1 < 60))), (61, .agg #[.int .i64 o24.1, .int .i64 o24.2.1, .int .i64 o24.2.2.1, .slice q24.1 o24.2.2.2.1.length q24.2, .bool o24.2.2.2.2]), (62, .agg #[.int .i64 x12_5.f0, .int .i64 x12_5.f1, .int .i64 x12_5.f2, .slice p12_5.1 x12_5.f3.length p12_5.2, .bool x12_5.f4]), (63, .bool x12_6), (64, .bool false), (67, .pointer (some ⟨p0_0, 3, none⟩)), (68, .slice q24.1 o24.2.2.2.1.length q24.2), (69, .int .i64 (o24.2.2.2.1.length : Int)), (70, .bool (decide ((o24.2.2.2.1.length : Int) > 200))), (71, .bool (decide ((o24.2.2.2.1.length : Int) > 200)))]) (bx' := [⟨p0_0, [.int .i64 o24.1, .int .i64 o24.2.1, .int .i64 o24.2.2.1, .slice q24.1 o24.2.2.2.1.length q24.2, .bool o24.2.2.2.2], 24⟩]) (by kernel_rfl) ?_
                refine O.nil (by kernel_rfl) ?_
                rcases condE H with ⟨hc29, H⟩ | ⟨hc29, H⟩
                · refine J.condT (x := .tmp 71) (t := (decide ((o24.2.2.2.1.length : Int) > 200))) (by kernel_rfl) (by kernel_rfl) hc29 ?_
                  refine J.seq (by kernel_rfl) ?_
                  refine J.region (by kernel_rfl) ?_
                  refine O.pure 1 [] [4] [] (fr' := [(4, .bool false)]) (bx' := [⟨p0_0, [.int .i64 o24.1, .int .i64 o24.2.1, .int .i64 o24.2.2.1, .slice q24.1 o24.2.2.2.1.length q24.2, .bool o24.2.2.2.2], 24⟩]) (by kernel_rfl) ?_
                  refine O.nil (by kernel_rfl) ?_
                  obtain rfl := Option.some.inj H
                  exact J.doneS [] [] [] [] [] () (vs := [.bool false]) (by kernel_rfl) (by kernel_rfl) (by kernel_rfl) (by kernel_rfl) (by kernel_rfl) (by decide)
                · refine J.condF (x := .tmp 71) (t := (decide ((o24.2.2.2.1.length : Int) > 200))) (by kernel_rfl) (by kernel_rfl) hc29 ?_
                  refine J.skip (by kernel_rfl) ?_
                  refine J.out ?_
                  refine J.region (by kernel_rfl) ?_
                  refine O.pure 3 [] [1, 2, 5, 16, 17, 61, 62, 63, 64, 67, 68, 69, 70] [] (fr' := [(1, .slice h1.1 a1.length h1.2), (2, .pointer (some ⟨p0_0, 0, none⟩)), (5, .int .i64 (IntKind.wrap .i64 (s2.1 + 1))), (16, .int .i64 s2.1), (17, .bool (decide (s2.1 < 60))), (61, .agg #[.int .i64 o24.1, .int .i64 o24.2.1, .int .i64 o24.2.2.1, .slice q24.1 o24.2.2.2.1.length q24.2, .bool o24.2.2.2.2]), (62, .agg #[.int .i64 x12_5.f0, .int .i64 x12_5.f1, .int .i64 x12_5.f2, .slice p12_5.1 x12_5.f3.length p12_5.2, .bool x12_5.f4]), (63, .bool x12_6), (64, .bool false), (67, .pointer (some ⟨p0_0, 3, none⟩)), (68, .slice q24.1 o24.2.2.2.1.length q24.2), (69, .int .i64 (o24.2.2.2.1.length : Int)), (70, .bool (decide ((o24.2.2.2.1.length : Int) > 200)))]) (bx' := [⟨p0_0, [.int .i64 o24.1, .int .i64 o24.2.1, .int .i64 o24.2.2.1, .slice q24.1 o24.2.2.2.1.length q24.2, .bool o24.2.2.2.2], 24⟩]) (by kernel_rfl) ?_
                  refine O.nil (by kernel_rfl) ?_
                  exact J.conv2 [1, 2, 5] [1, 2, 3] [0] [] (by kernel_rfl) (by kernel_rfl) (by kernel_rfl) (by kernel_rfl) (by decide) (ih2 ((IntKind.wrap .i64 (s2.1 + 1)), o24.1, o24.2.1, o24.2.2.1, o24.2.2.2.1, o24.2.2.2.2) q24 H)
          · rcases condE H with ⟨hc30, H⟩ | ⟨hc30, H⟩
            · refine J.condT (x := .tmp 37) (t := (x6_2.f0 == 0)) (by kernel_rfl) (by kernel_rfl) hc30 ?_
              obtain ⟨x9_3, hx9_3, H⟩ := bindE H
              obtain ⟨hx9_3a, hx9_3⟩ := idxE hx9_3
              obtain ⟨x9_7, hx9_7, H⟩ := bindE H
              refine J.open (d := kd39) (h := h1) (i := s2.1) 2 rfl hx9_3 (op39 _) (fun p9_3 hp9_3A => ?_)
              refine J.drawS (by kernel_rfl) [(0, some 40, .agg #[.int .i64 s2.2.1, .int .i64 s2.2.2.1, .int .i64 s2.2.2.2.1, .slice g2.1 s2.2.2.2.2.1.length g2.2, .bool s2.2.2.2.2.2]), (1, some 41, .slice h1.1 a1.length h1.2), (2, some 42, .int .i64 s2.1), (4, some 44, .pointer (some ⟨p9_3.1, p9_3.2.1 + s2.1.toNat * 4 + 1, none⟩)), (5, some 45, .pointer (some ⟨p9_3.1, p9_3.2.1 + s2.1.toNat * 4 + 3, none⟩)), (6, some 46, .string x9_3.f1.f2), (3, some 43, .pointer (some ⟨p9_3.1, p9_3.2.1 + s2.1.toNat * 4, none⟩))] ([0, 1, 2, 4, 5, 6] ++ [3]) (by kernel_rfl) ?_
              refine D.mid (cs := [7]) [0, 1, 2, 4, 5, 6] [3] [(0, 0), (1, 3)] [p0_0, 0, p9_3.1, p9_3.2.1 + s2.1.toNat * 4 + 3] (by kernel_rfl) (by kernel_rfl) (⟨QuAt.mk (v := .pointer (some ⟨p9_3.1, p9_3.2.1 + s2.1.toNat * 4, none⟩)) (some 43) (by kernel_rfl) (by kernel_rfl) (Qu.idx (t := 25) (x := .tmp 41) (y := .tmp 42) (c := h1.2) (kk := .i64) (sz := 4) (by kernel_rfl) (by kernel_rfl) (by kernel_rfl) (by kernel_rfl) hx9_3a (idx_lt hx9_3) hp9_3A), trivial⟩) (by kernel_rfl) ⟨?_, trivial⟩
              refine EvStep.mk (some 47) (new := fun p9_7 => [(8, some 39, .tuple #[.agg #[.int .i64 x9_7.1.f0, .int .i64 x9_7.1.f1, .int .i64 x9_7.1.f2, .slice p9_7.1 x9_7.1.f3.length p9_7.2, .bool x9_7.1.f4], .int .i64 x9_7.2]), (9, some 48, .agg #[.int .i64 x9_7.1.f0, .int .i64 x9_7.1.f1, .int .i64 x9_7.1.f2, .slice p9_7.1 x9_7.1.f3.length p9_7.2, .bool x9_7.1.f4]), (10, some 49, .int .i64 x9_7.2)]) ([1, 2, 4, 5, 8, 9, 10] ++ [3]) (by kernel_rfl) (Ev.call0 (xs := [.tmp 40, .tmp 46]) [0] (by kernel_rfl) (by kernel_rfl) (fun w hS => link_Send.con K (⟨s2.2.1, s2.2.2.1, s2.2.2.2.1, s2.2.2.2.2.1, s2.2.2.2.2.2⟩ : S24) x9_3.f1.f2 g2  _ _ w hS hx9_7)) (fun p9_7 => by kernel_rfl) (fun p9_7 => ?_)
              refine D.mid (cs := [11]) [1, 2, 4, 5, 8, 9, 10] [3] [] [] (by kernel_rfl) (by kernel_rfl) (⟨QuAt.mk (v := .pointer (some ⟨p9_3.1, p9_3.2.1 + s2.1.toNat * 4, none⟩)) (some 43) (by kernel_rfl) (by kernel_rfl) (Qu.idx (t := 25) (x := .tmp 41) (y := .tmp 42) (c := h1.2) (kk := .i64) (sz := 4) (by kernel_rfl) (by kernel_rfl) (by kernel_rfl) (by kernel_rfl) hx9_3a (idx_lt hx9_3) hp9_3A), trivial⟩) (by kernel_rfl) ⟨?_, trivial⟩
              refine EvStep.mk none (new := fun _ => []) ([10] ++ []) (by kernel_rfl) (Ev.store (kk := 0) (cs := [.int .i64 x9_7.1.f0, .int .i64 x9_7.1.f1, .int .i64 x9_7.1.f2, .slice p9_7.1 x9_7.1.f3.length p9_7.2, .bool x9_7.1.f4]) (0, 0) [p0_0, 0] (by kernel_rfl)) (fun _ => by kernel_rfl) (fun _ => ?_)
              refine D.fin (fr' := [(1, .slice h1.1 a1.length h1.2), (2, .pointer (some ⟨p0_0, 0, none⟩)), (5, .int .i64 s2.1), (16, .int .i64 s2.1), (17, .bool (decide (s2.1 < 60)))]) [10] [] [] [] [1, 2, 5, 16, 17] (by kernel_rfl) (by kernel_rfl) trivial (by kernel_rfl) ?_
              obtain rfl := Option.some.inj H
              refine J.mono (fun w hS => hS.freezeH) ?_
              exact J.conv2 [1, 2, 5, 16, 17] [0, 2, 3] [0] [] (by kernel_rfl) (by kernel_rfl) (by kernel_rfl) (by kernel_rfl) (by decide) (hj24 p9_7)
            · refine J.condF (x := .tmp 37) (t := (x6_2.f0 == 0)) (by kernel_rfl) (by kernel_rfl) hc30 ?_
              refine J.seq (by kernel_rfl) ?_
              refine J.region (by kernel_rfl) ?_
              refine O.pure 2 [] [1, 2, 5, 16, 17, 50] [] (fr' := [(1, .slice h1.1 a1.length h1.2), (2, .pointer (some ⟨p0_0, 0, none⟩)), (5, .int .i64 s2.1), (16, .int .i64 s2.1), (17, .bool (decide (s2.1 < 60))), (50, .bool (x6_2.f0 == 1))]) (bx' := [⟨p0_0, [.int .i64 s2.2.1, .int .i64 s2.2.2.1, .int .i64 s2.2.2.2.1, .slice g2.1 s2.2.2.2.2.1.length g2.2, .bool s2.2.2.2.2.2], 24⟩]) (by kernel_rfl) ?_
              refine O.nil (by kernel_rfl) ?_
              rcases condE H with ⟨hc31, H⟩ | ⟨hc31, H⟩
              · refine J.condT (x := .tmp 50) (t := (x6_2.f0 == 1)) (by kernel_rfl) (by kernel_rfl) hc31 ?_
                obtain ⟨x11_1, hx11_1, H⟩ := bindE H
                refine J.region (by kernel_rfl) ?_
                refine O.pure 1 [(0, 0)] [1, 2, 5, 16, 17, 53] [p0_0, 0] (fr' := [(1, .slice h1.1 a1.length h1.2), (2, .pointer (some ⟨p0_0, 0, none⟩)), (5, .int .i64 s2.1), (16, .int .i64 s2.1), (17, .bool (decide (s2.1 < 60))), (53, .agg #[.int .i64 s2.2.1, .int .i64 s2.2.2.1, .int .i64 s2.2.2.2.1, .slice g2.1 s2.2.2.2.2.1.length g2.2, .bool s2.2.2.2.2.2])]) (bx' := [⟨p0_0, [.int .i64 s2.2.1, .int .i64 s2.2.2.1, .int .i64 s2.2.2.2.1, .slice g2.1 s2.2.2.2.2.1.length g2.2, .bool s2.2.2.2.2.2], 24⟩]) (by kernel_rfl) ?_
                refine O.e (some 54) (Ev.call0 (xs := [.tmp 53]) [0] (by kernel_rfl) (by kernel_rfl) (fun w hS => link_Tick.con K (⟨s2.2.1, s2.2.2.1, s2.2.2.2.1, s2.2.2.2.2.1, s2.2.2.2.2.2⟩ : S24) g2  _ _ w hS hx11_1)) (by kernel_rfl) (fun p11_1 => ?_)
                refine O.pure 4 [(0, 0)] [1, 2, 5, 16, 17] [p0_0, 0] (fr' := [(1, .slice h1.1 a1.length h1.2), (2, .pointer (some ⟨p0_0, 0, none⟩)), (5, .int .i64 s2.1), (16, .int .i64 s2.1), (17, .bool (decide (s2.1 < 60)))]) (bx' := [⟨p0_0, [.int .i64 x11_1.1.f0, .int .i64 x11_1.1.f1, .int .i64 x11_1.1.f2, .slice p11_1.1.1 x11_1.1.f3.length p11_1.1.2, .bool x11_1.1.f4], 24⟩]) (by kernel_rfl) ?_
                refine O.nil (by kernel_rfl) ?_
                obtain rfl := Option.some.inj H
                exact J.conv2 [1, 2, 5, 16, 17] [0, 2, 3] [0] [] (by kernel_rfl) (by kernel_rfl) (by kernel_rfl) (by kernel_rfl) (by decide) (hj24 p11_1.1)
              · refine J.condF (x := .tmp 50) (t := (x6_2.f0 == 1)) (by kernel_rfl) (by kernel_rfl) hc31 ?_
                obtain ⟨x7_3, hx7_3, H⟩ := bindE H
                obtain ⟨hx7_3a, hx7_3⟩ := idxE hx7_3
                obtain ⟨x7_6, hx7_6, H⟩ := bindE H
                refine J.open (d := kd39) (h := h1) (i := s2.1) 2 rfl hx7_3 (op39 _) (fun p7_3 hp7_3A => ?_)
                refine J.drawS (by kernel_rfl) [(0, some 27, .agg #[.int .i64 s2.2.1, .int .i64 s2.2.2.1, .int .i64 s2.2.2.2.1, .slice g2.1 s2.2.2.2.2.1.length g2.2, .bool s2.2.2.2.2.2]), (1, some 28, .slice h1.1 a1.length h1.2), (2, some 29, .int .i64 s2.1), (4, some 31, .pointer (some ⟨p7_3.1, p7_3.2.1 + s2.1.toNat * 4 + 1, none⟩)), (5, some 32, .agg #[.int .i64 x7_3.f1.f0, .int .i64 x7_3.f1.f1, .string x7_3.f1.f2]), (3, some 30, .pointer (some ⟨p7_3.1, p7_3.2.1 + s2.1.toNat * 4, none⟩))] ([0, 1, 2, 4, 5] ++ [3]) (by kernel_rfl) ?_
                refine D.mid (cs := [6]) [0, 1, 2, 4, 5] [3] [(0, 0), (1, 1)] [p0_0, 0, p7_3.1, p7_3.2.1 + s2.1.toNat * 4 + 1] (by kernel_rfl) (by kernel_rfl) (⟨QuAt.mk (v := .pointer (some ⟨p7_3.1, p7_3.2.1 + s2.1.toNat * 4, none⟩)) (some 30) (by kernel_rfl) (by kernel_rfl) (Qu.idx (t := 25) (x := .tmp 28) (y := .tmp 29) (c := h1.2) (kk := .i64) (sz := 4) (by kernel_rfl) (by kernel_rfl) (by kernel_rfl) (by kernel_rfl) hx7_3a (idx_lt hx7_3) hp7_3A), trivial⟩) (by kernel_rfl) ⟨?_, trivial⟩
                refine EvStep.mk (some 33) (new := fun p7_6 => [(7, some 26, .tuple #[.agg #[.int .i64 x7_6.1.f0, .int .i64 x7_6.1.f1, .int .i64 x7_6.1.f2, .slice p7_6.1 x7_6.1.f3.length p7_6.2, .bool x7_6.1.f4], .string x7_6.2.1, .bool x7_6.2.2]), (8, some 34, .agg #[.int .i64 x7_6.1.f0, .int .i64 x7_6.1.f1, .int .i64 x7_6.1.f2, .slice p7_6.1 x7_6.1.f3.length p7_6.2, .bool x7_6.1.f4]), (9, some 35, .string x7_6.2.1), (10, some 36, .bool x7_6.2.2)]) ([1, 2, 4, 7, 8, 9, 10] ++ [3]) (by kernel_rfl) (Ev.call0 (xs := [.tmp 27, .tmp 32]) [0] (by kernel_rfl) (by kernel_rfl) (fun w hS => link_Take.con K (⟨s2.2.1, s2.2.2.1, s2.2.2.2.1, s2.2.2.2.2.1, s2.2.2.2.2.2⟩ : S24) x7_3.f1 g2  _ _ w hS hx7_6)) (fun p7_6 => by kernel_rfl) (fun p7_6 => ?_)
                refine D.mid (cs := [11]) [1, 2, 4, 7, 8, 9, 10] [3] [] [] (by kernel_rfl) (by kernel_rfl) (⟨QuAt.mk (v := .pointer (some ⟨p7_3.1, p7_3.2.1 + s2.1.toNat * 4, none⟩)) (some 30) (by kernel_rfl) (by kernel_rfl) (Qu.idx (t := 25) (x := .tmp 28) (y := .tmp 29) (c := h1.2) (kk := .i64) (sz := 4) (by kernel_rfl) (by kernel_rfl) (by kernel_rfl) (by kernel_rfl) hx7_3a (idx_lt hx7_3) hp7_3A), trivial⟩) (by kernel_rfl) ⟨?_, trivial⟩
                refine EvStep.mk none (new := fun _ => []) ([9, 10] ++ []) (by kernel_rfl) (Ev.store (kk := 0) (cs := [.int .i64 x7_6.1.f0, .int .i64 x7_6.1.f1, .int .i64 x7_6.1.f2, .slice p7_6.1 x7_6.1.f3.length p7_6.2, .bool x7_6.1.f4]) (0, 0) [p0_0, 0] (by kernel_rfl)) (fun _ => by kernel_rfl) (fun _ => ?_)
                refine D.fin (fr' := [(1, .slice h1.1 a1.length h1.2), (2, .pointer (some ⟨p0_0, 0, none⟩)), (5, .int .i64 s2.1), (16, .int .i64 s2.1), (17, .bool (decide (s2.1 < 60)))]) [9, 10] [] [] [] [1, 2, 5, 16, 17] (by kernel_rfl) (by kernel_rfl) trivial (by kernel_rfl) ?_
                obtain rfl := Option.some.inj H
                exact J.conv2 [1, 2, 5, 16, 17] [0, 2, 3] [0] [] (by kernel_rfl) (by kernel_rfl) (by kernel_rfl) (by kernel_rfl) (by decide) (hj24 p7_6)
        · refine J.condF (x := .tmp 18) (t := (decide (s2.1 < 60))) (by kernel_rfl) (by kernel_rfl) hc23 ?_
          refine J.exit (id := 0) (by kernel_rfl) rfl ?_
          refine J.seq (by kernel_rfl) ?_
          obtain ⟨x14_0, hx14_0, H⟩ := bindE H
          refine J.region (by kernel_rfl) ?_
          refine O.e (some 72) (Ev.call0 (xs := []) [] (by kernel_rfl) (by kernel_rfl) (fun w hS => haywainlaw16_knows.con K  _ _ w hS hx14_0)) (by kernel_rfl) (fun _ => ?_)
          refine O.pure 1 [] [4] [] (fr' := [(4, .bool x14_0)]) (bx' := [⟨p0_0, [.int .i64 s2.2.1, .int .i64 s2.2.2.1, .int .i64 s2.2.2.2.1, .slice g2.1 s2.2.2.2.2.1.length g2.2, .bool s2.2.2.2.2.2], 24⟩]) (by kernel_rfl) ?_
          refine O.nil (by kernel_rfl) ?_
          obtain rfl := Option.some.inj H
          exact J.doneS [] [] [] [] [] () (vs := [.bool x14_0]) (by kernel_rfl) (by kernel_rfl) (by kernel_rfl) (by kernel_rfl) (by kernel_rfl) (by decide)
      · refine J.region (by kernel_rfl) ?_
        refine O.pure 3 [] [1, 2, 5, 11, 13] [] (fr' := [(1, .slice h1.1 a1.length h1.2), (2, .pointer (some ⟨p0_0, 0, none⟩)), (5, .int .i64 s2.1), (11, .int .i64 s2.1), (13, .int .i64 (a1.length : Int))]) (bx' := [⟨p0_0, [.int .i64 s2.2.1, .int .i64 s2.2.2.1, .int .i64 s2.2.2.2.1, .slice g2.1 s2.2.2.2.2.1.length g2.2, .bool s2.2.2.2.2.2], 24⟩]) (by kernel_rfl) ?_
        refine O.q (v := .bool false) (some 14) (Qu.eqv (u := .bool (decide (s2.1 < (a1.length : Int)))) (v := .bool false) (0, 0) [] (by kernel_rfl) (congrArg Value.bool hc22)) (by kernel_rfl) ?_
        refine O.pure 4 [] [1, 2, 5, 16, 17, 18] [] (fr' := [(1, .slice h1.1 a1.length h1.2), (2, .pointer (some ⟨p0_0, 0, none⟩)), (5, .int .i64 s2.1), (16, undef), (17, undef), (18, .bool false)]) (bx' := [⟨p0_0, [.int .i64 s2.2.1, .int .i64 s2.2.2.1, .int .i64 s2.2.2.2.1, .slice g2.1 s2.2.2.2.2.1.length g2.2, .bool s2.2.2.2.2.2], 24⟩]) (by kernel_rfl) ?_
        refine O.nil (by kernel_rfl) ?_
        refine J.cond (o := .tmp 18) false (by kernel_rfl) (by kernel_rfl) ?_
        refine J.exit (id := 0) (by kernel_rfl) rfl ?_
        refine J.seq (by kernel_rfl) ?_
        obtain ⟨x14_0, hx14_0, H⟩ := bindE H
        refine J.region (by kernel_rfl) ?_
        refine O.e (some 72) (Ev.call0 (xs := []) [] (by kernel_rfl) (by kernel_rfl) (fun w hS => haywainlaw16_knows.con K  _ _ w hS hx14_0)) (by kernel_rfl) (fun _ => ?_)
        refine O.pure 1 [] [4] [] (fr' := [(4, .bool x14_0)]) (bx' := [⟨p0_0, [.int .i64 s2.2.1, .int .i64 s2.2.2.1, .int .i64 s2.2.2.2.1, .slice g2.1 s2.2.2.2.2.1.length g2.2, .bool s2.2.2.2.2.2], 24⟩]) (by kernel_rfl) ?_
        refine O.nil (by kernel_rfl) ?_
        obtain rfl := Option.some.inj H
        exact J.doneS [] [] [] [] [] () (vs := [.bool x14_0]) (by kernel_rfl) (by kernel_rfl) (by kernel_rfl) (by kernel_rfl) (by kernel_rfl) (by decide)
    · exact J.conv2 [1, 2, 5] [0, 0, 1] [0] [] (by kernel_rfl) (by kernel_rfl) (by kernel_rfl) (by kernel_rfl) (by decide) h_
def haywainlaw16_LinkStays.Pure : Prop := ∀ (a0 : S24) (a1 : List S39), (wf24 a0) → (a1.length * 40 ≤ 140737488351232 ∧ ∀ x_ ∈ a1, wf39 x_) → ∃ K, haywainlaw16_LinkStays.f K a0 a1 = some true
end Go.Proofs.Ytndccmilcffedaa.G
