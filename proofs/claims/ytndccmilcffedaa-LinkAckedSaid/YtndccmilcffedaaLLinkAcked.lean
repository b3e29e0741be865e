/- The law LinkAcked as plain Lean, with its contract; printed by a program of this session. -/
import Derived.Test.YtndccmilcffedaaG1
set_option linter.unusedVariables false
set_option linter.unusedSimpArgs false
namespace Go.Proofs.Ytndccmilcffedaa.G
open Go Go.RowKit Go.Hw
/-! ### haywain/haywainlaw16.LinkAcked: function 7 -/
def haywainlaw16_LinkAcked.l487 (K : Nat) (a1 : Int) (x17_1 : S24 × (List S37)) : Nat → (Int × Int) → Option (Int ⊕ ((Int × Int × Int × Int × (List S71) × Bool) ⊕ ((Int × Int × Int × Int × (List S71) × Bool) ⊕ Bool)))
  | 0, _ => none
  | k + 1, s487 => cond (decide (s487.2 < (x17_1.2.length : Int))) ((idxO x17_1.2 s487.2).bind fun x22_2 => (cond (decide (x22_2.f0 > 0)) (some ((IntKind.wrap .i64 (s487.1 + 1)))) (some (s487.1)) : Option Int).bind fun o501 : Int => (idxO x17_1.2 s487.2).bind fun x24_2 => cond (decide (x24_2.f0 > 0)) ((idxO x17_1.2 s487.2).bind fun x24_9 => cond (decide (x24_9.f0 ≤ a1)) (some (.inr (.inr (.inr (false))))) (haywainlaw16_LinkAcked.l487 K a1 x17_1 k (o501, (IntKind.wrap .i64 (s487.2 + 1))))) (haywainlaw16_LinkAcked.l487 K a1 x17_1 k (o501, (IntKind.wrap .i64 (s487.2 + 1))))) (some (.inl s487.1))
def haywainlaw16_LinkAcked.l264 (K : Nat) (a1 : Int) : Nat → (Int × Int × Int × Int × Int × (List S71) × Bool) → Option ((Int × Int × Int × Int × (List S71) × Bool) ⊕ Bool)
  | 0, _ => none
  | k + 1, s264 => cond (decide (s264.2.1 < 4)) (cond (s264.1 == 0) (((link_Tick.f K (⟨s264.2.2.1, s264.2.2.2.1, s264.2.2.2.2.1, s264.2.2.2.2.2.1, s264.2.2.2.2.2.2⟩ : S24)).bind fun x17_1 => (haywainlaw16_LinkAcked.l487 K a1 x17_1 K (s264.1, 0) : Option (Int ⊕ ((Int × Int × Int × Int × (List S71) × Bool) ⊕ ((Int × Int × Int × Int × (List S71) × Bool) ⊕ Bool)))).bind (Sum.elim (fun o467 : Int => some (.inl (o467, x17_1.1.f0, x17_1.1.f1, x17_1.1.f2, x17_1.1.f3, x17_1.1.f4))) some) : Option ((Int × Int × Int × Int × (List S71) × Bool) ⊕ ((Int × Int × Int × Int × (List S71) × Bool) ⊕ Bool))).bind (Sum.elim (fun o427 : Int × Int × Int × Int × (List S71) × Bool => haywainlaw16_LinkAcked.l264 K a1 k (o427.1, (IntKind.wrap .i64 (s264.2.1 + 1)), o427.2.1, o427.2.2.1, o427.2.2.2.1, o427.2.2.2.2.1, o427.2.2.2.2.2)) some)) (some (.inl (s264.1, s264.2.2.1, s264.2.2.2.1, s264.2.2.2.2.1, s264.2.2.2.2.2.1, s264.2.2.2.2.2.2)))) (some (.inl (s264.1, s264.2.2.1, s264.2.2.2.1, s264.2.2.2.2.1, s264.2.2.2.2.2.1, s264.2.2.2.2.2.2)))
def haywainlaw16_LinkAcked.l506 (K : Nat) (a1 : Int) (x3_3 : S24 × ByteArray × Bool) : Nat → Int → Option (Unit ⊕ Bool)
  | 0, _ => none
  | k + 1, s506 => cond (decide (s506 < (x3_3.1.f3.length : Int))) ((idxO x3_3.1.f3 s506).bind fun x11_3 => cond (decide (x11_3.f0 ≤ a1)) (some (.inr (false))) (haywainlaw16_LinkAcked.l506 K a1 x3_3 k (IntKind.wrap .i64 (s506 + 1)))) (some (.inl ()))
def haywainlaw16_LinkAcked.f (K : Nat) (a0 : S24) (a1 : Int) : Option Bool := cond (decide ((a0.f3.length : Int) > 300)) ((haywainlaw16_knows.f K).bind fun x2_0 => some (x2_0)) ((haywainlaw16_as.f K a0).bind fun x1_6 => (haywainref16_Right.f K x1_6).bind fun x1_7 => cond (!x1_7) ((haywainlaw16_knows.f K).bind fun x2_0 => some (x2_0)) ((link_Take.f K a0 (⟨0, a1, (⟨#[]⟩ : ByteArray)⟩ : S37)).bind fun x3_3 => cond x3_3.2.2 (some (false)) (cond (!(x3_3.2.1.toList == (⟨#[]⟩ : ByteArray).toList)) (some (false)) (cond (decide (a1 < 0)) ((haywainlaw16_as.f K x3_3.1).bind fun x7_1 => (haywainlaw16_as.f K a0).bind fun x7_3 => (haywainref16_Same.f K x7_1 x7_3).bind fun x7_4 => cond x7_4 ((haywainlaw16_knows.f K).bind fun x7_6 => some (x7_6)) (some (false))) (cond (decide (a1 ≥ a0.f0)) ((haywainlaw16_as.f K x3_3.1).bind fun x7_1 => (haywainlaw16_as.f K a0).bind fun x7_3 => (haywainref16_Same.f K x7_1 x7_3).bind fun x7_4 => cond x7_4 ((haywainlaw16_knows.f K).bind fun x7_6 => some (x7_6)) (some (false))) ((haywainlaw16_LinkAcked.l506 K a1 x3_3 K 0 : Option (Unit ⊕ Bool)).bind (Sum.elim (fun o9 : Unit => (haywainlaw16_LinkAcked.l264 K a1 K (0, 0, x3_3.1.f0, x3_3.1.f1, x3_3.1.f2, x3_3.1.f3, x3_3.1.f4) : Option ((Int × Int × Int × Int × (List S71) × Bool) ⊕ Bool)).bind (Sum.elim (fun o17 : Int × Int × Int × Int × (List S71) × Bool => (cond (decide ((o17.2.2.2.2.1.length : Int) > 8)) (some (8)) (some ((o17.2.2.2.2.1.length : Int))) : Option Int).bind fun o260 : Int => cond (o17.1 == o260) ((haywainlaw16_knows.f K).bind fun x29_4 => some (x29_4)) (some (false))) some)) some)))))))
set_option maxRecDepth 100000 in
set_option maxHeartbeats 1000000 in
theorem haywainlaw16_LinkAcked.con (K : Nat) (a0 : S24) (a1 : Int) (h0 : Hd) (r : Bool) (X : Nat → Nat → Prop) (w : World) (hS : St X w [] [] [] [] [Rd kd71 h0.1 h0.2 a0.f3] w) (H : haywainlaw16_LinkAcked.f K a0 a1 = some r) :
    Cn Try.prog 7 [.agg #[.int .i64 a0.f0, .int .i64 a0.f1, .int .i64 a0.f2, .slice h0.1 a0.f3.length h0.2, .bool a0.f4], .int .i64 a1] X w [] (fun i : Unit => .bool r) (fun i => []) (fun i => []) (fun i => []) := by
  refine Cn.of Try.func7 (by kernel_rfl) hS ?_
  unfold haywainlaw16_LinkAcked.f at H
  refine J.seq (by kernel_rfl) ?_
  refine J.region (by kernel_rfl) ?_
  refine O.e (some 2) (Ev.box (t := 24) (x := .tmp 0) (v := .agg #[.int .i64 a0.f0, .int .i64 a0.f1, .int .i64 a0.f2, .slice h0.1 a0.f3.length h0.2, .bool a0.f4]) (by kernel_rfl) (by kernel_rfl)) (by kernel_rfl) (fun p0_0 => ?_)
  refine O.pure 1 [] [1, 2] [] (fr' := [(1, .int .i64 a1), (2, .pointer (some ⟨p0_0, 0, none⟩))]) (bx' := [⟨p0_0, [.int .i64 a0.f0, .int .i64 a0.f1, .int .i64 a0.f2, .slice h0.1 a0.f3.length h0.2, .bool a0.f4], 24⟩]) (by kernel_rfl) ?_
  refine O.nil (by kernel_rfl) ?_
  refine J.seq (by kernel_rfl) ?_
  refine J.seq (by kernel_rfl) ?_
  rcases condE H with ⟨hc1, H⟩ | ⟨hc1, H⟩
  · refine J.region (by kernel_rfl) ?_
    refine O.pure 3 [(0, 3)] [1, 2, 17] [p0_0, 3] (fr' := [(1, .int .i64 a1), (2, .pointer (some ⟨p0_0, 0, none⟩)), (17, .int .i64 (a0.f3.length : Int))]) (bx' := [⟨p0_0, [.int .i64 a0.f0, .int .i64 a0.f1, .int .i64 a0.f2, .slice h0.1 a0.f3.length h0.2, .bool a0.f4], 24⟩]) (by kernel_rfl) ?_
    refine O.q (v := .bool true) (some 18) (Qu.eqv (u := .bool (decide ((a0.f3.length : Int) > 300))) (v := .bool true) (0, 0) [] (by kernel_rfl) (congrArg Value.bool hc1)) (by kernel_rfl) ?_
    refine O.pure 6 [] [1, 2, 24] [] (fr' := [(1, .int .i64 a1), (2, .pointer (some ⟨p0_0, 0, none⟩)), (24, .bool true)]) (bx' := [⟨p0_0, [.int .i64 a0.f0, .int .i64 a0.f1, .int .i64 a0.f2, .slice h0.1 a0.f3.length h0.2, .bool a0.f4], 24⟩]) (by kernel_rfl) ?_
    refine O.nil (by kernel_rfl) ?_
    refine J.cond (o := .tmp 24) true (by kernel_rfl) (by kernel_rfl) ?_
    refine J.seq (by kernel_rfl) ?_
    obtain ⟨x2_0, hx2_0, H⟩ := bindE H
    refine J.region (by kernel_rfl) ?_
    refine O.e (some 25) (Ev.call0 (xs := []) [] (by kernel_rfl) (by kernel_rfl) (fun w hS => haywainlaw16_knows.con K  _ _ w hS hx2_0)) (by kernel_rfl) (fun _ => ?_)
    refine O.pure 1 [] [4] [] (fr' := [(4, .bool x2_0)]) (bx' := [⟨p0_0, [.int .i64 a0.f0, .int .i64 a0.f1, .int .i64 a0.f2, .slice h0.1 a0.f3.length h0.2, .bool a0.f4], 24⟩]) (by kernel_rfl) ?_
    refine O.nil (by kernel_rfl) ?_
    obtain rfl := Option.some.inj H
    exact J.doneS [] [] [] [] [] () (vs := [.bool x2_0]) (by kernel_rfl) (by kernel_rfl) (by kernel_rfl) (by kernel_rfl) (by kernel_rfl) (by decide)
  · obtain ⟨x1_6, hx1_6, H⟩ := bindE H
    obtain ⟨x1_7, hx1_7, H⟩ := bindE H
    refine J.region (by kernel_rfl) ?_
    refine O.pure 3 [(0, 3)] [1, 2, 17] [p0_0, 3] (fr' := [(1, .int .i64 a1), (2, .pointer (some ⟨p0_0, 0, none⟩)), (17, .int .i64 (a0.f3.length : Int))]) (bx' := [⟨p0_0, [.int .i64 a0.f0, .int .i64 a0.f1, .int .i64 a0.f2, .slice h0.1 a0.f3.length h0.2, .bool a0.f4], 24⟩]) (by kernel_rfl) ?_
    refine O.q (v := .bool false) (some 18) (Qu.eqv (u := .bool (decide ((a0.f3.length : Int) > 300))) (v := .bool false) (0, 0) [] (by kernel_rfl) (congrArg Value.bool hc1)) (by kernel_rfl) ?_
    refine O.pure 2 [(0, 0)] [1, 2, 19, 20] [p0_0, 0] (fr' := [(1, .int .i64 a1), (2, .pointer (some ⟨p0_0, 0, none⟩)), (19, .bool false), (20, .agg #[.int .i64 a0.f0, .int .i64 a0.f1, .int .i64 a0.f2, .slice h0.1 a0.f3.length h0.2, .bool a0.f4])]) (bx' := [⟨p0_0, [.int .i64 a0.f0, .int .i64 a0.f1, .int .i64 a0.f2, .slice h0.1 a0.f3.length h0.2, .bool a0.f4], 24⟩]) (by kernel_rfl) ?_
    refine O.e (some 21) (Ev.call0 (xs := [.tmp 20]) [0] (by kernel_rfl) (by kernel_rfl) (fun w hS => haywainlaw16_as.con K a0 h0  _ _ w hS hx1_6)) (by kernel_rfl) (fun p1_6 => ?_)
    refine O.e (some 22) (Ev.mono (fun w hS => hS.freezeH) (Ev.call0 (xs := [.tmp 21]) [0] (by kernel_rfl) (by kernel_rfl) (fun w hS => haywainref16_Right.con K x1_6 p1_6  _ _ w hS hx1_7))) (by kernel_rfl) (fun _ => ?_)
    refine O.pure 2 [] [1, 2, 24] [] (fr' := [(1, .int .i64 a1), (2, .pointer (some ⟨p0_0, 0, none⟩)), (24, .bool (!x1_7))]) (bx' := [⟨p0_0, [.int .i64 a0.f0, .int .i64 a0.f1, .int .i64 a0.f2, .slice h0.1 a0.f3.length h0.2, .bool a0.f4], 24⟩]) (by kernel_rfl) ?_
    refine O.nil (by kernel_rfl) ?_
    rcases condE H with ⟨hc2, H⟩ | ⟨hc2, H⟩
    · refine J.condT (x := .tmp 24) (t := (!x1_7)) (by kernel_rfl) (by kernel_rfl) hc2 ?_
      refine J.seq (by kernel_rfl) ?_
      obtain ⟨x2_0, hx2_0, H⟩ := bindE H
      refine J.region (by kernel_rfl) ?_
      refine O.e (some 25) (Ev.call0 (xs := []) [] (by kernel_rfl) (by kernel_rfl) (fun w hS => haywainlaw16_knows.con K  _ _ w hS hx2_0)) (by kernel_rfl) (fun _ => ?_)
      refine O.pure 1 [] [4] [] (fr' := [(4, .bool x2_0)]) (bx' := [⟨p0_0, [.int .i64 a0.f0, .int .i64 a0.f1, .int .i64 a0.f2, .slice h0.1 a0.f3.length h0.2, .bool a0.f4], 24⟩]) (by kernel_rfl) ?_
      refine O.nil (by kernel_rfl) ?_
      obtain rfl := Option.some.inj H
      exact J.doneS [] [] [] [] [] () (vs := [.bool x2_0]) (by kernel_rfl) (by kernel_rfl) (by kernel_rfl) (by kernel_rfl) (by kernel_rfl) (by decide)
    · refine J.condF (x := .tmp 24) (t := (!x1_7)) (by kernel_rfl) (by kernel_rfl) hc2 ?_
      refine J.skip (by kernel_rfl) ?_
      refine J.seq (by kernel_rfl) ?_
      obtain ⟨x3_3, hx3_3, H⟩ := bindE H
      refine J.region (by kernel_rfl) ?_
      refine O.pure 3 [(0, 0)] [1, 2, 27, 29] [p0_0, 0] (fr' := [(1, .int .i64 a1), (2, .pointer (some ⟨p0_0, 0, none⟩)), (27, .agg #[.int .i64 a0.f0, .int .i64 a0.f1, .int .i64 a0.f2, .slice h0.1 a0.f3.length h0.2, .bool a0.f4]), (29, .agg #[.int .i64 0, .int .i64 a1, .string (⟨#[]⟩ : ByteArray)])]) (bx' := [⟨p0_0, [.int .i64 a0.f0, .int .i64 a0.f1, .int .i64 a0.f2, .slice h0.1 a0.f3.length h0.2, .bool a0.f4], 24⟩]) (by kernel_rfl) ?_
      refine O.e (some 30) (Ev.call0 (xs := [.tmp 27, .tmp 29]) [1] (by kernel_rfl) (by kernel_rfl) (fun w hS => link_Take.con K a0 (⟨0, a1, (⟨#[]⟩ : ByteArray)⟩ : S37) h0  _ _ w hS hx3_3)) (by kernel_rfl) (fun p3_3 => ?_)
      refine O.pure 4 [] [1, 2, 31, 32, 33] [] (fr' := [(1, .int .i64 a1), (2, .pointer (some ⟨p0_0, 0, none⟩)), (31, .agg #[.int .i64 x3_3.1.f0, .int .i64 x3_3.1.f1, .int .i64 x3_3.1.f2, .slice p3_3.1 x3_3.1.f3.length p3_3.2, .bool x3_3.1.f4]), (32, .string x3_3.2.1), (33, .bool x3_3.2.2)]) (bx' := [⟨p0_0, [.int .i64 a0.f0, .int .i64 a0.f1, .int .i64 a0.f2, .slice h0.1 a0.f3.length h0.2, .bool a0.f4], 24⟩]) (by kernel_rfl) ?_
      refine O.e (some 5) (Ev.alloc (t := 24) (z := .agg #[.int .i64 0, .int .i64 0, .int .i64 0, .slice none 0 0, .bool false]) (by kernel_rfl) (by kernel_rfl)) (by kernel_rfl) (fun p3_8 => ?_)
      refine O.pure 3 [(0, 0)] [1, 2, 5, 6, 7] [p3_8, 0] (fr' := [(1, .int .i64 a1), (2, .pointer (some ⟨p0_0, 0, none⟩)), (5, .pointer (some ⟨p3_8, 0, none⟩)), (6, .string x3_3.2.1), (7, .bool x3_3.2.2)]) (bx' := [⟨p3_8, [.int .i64 x3_3.1.f0, .int .i64 x3_3.1.f1, .int .i64 x3_3.1.f2, .slice p3_3.1 x3_3.1.f3.length p3_3.2, .bool x3_3.1.f4], 24⟩, ⟨p0_0, [.int .i64 a0.f0, .int .i64 a0.f1, .int .i64 a0.f2, .slice h0.1 a0.f3.length h0.2, .bool a0.f4], 24⟩]) (by kernel_rfl) ?_
      refine O.nil (by kernel_rfl) ?_
      refine J.seq (by kernel_rfl) ?_
      refine J.seq (by kernel_rfl) ?_
      rcases condE H with ⟨hc3, H⟩ | ⟨hc3, H⟩
      · refine J.region (by kernel_rfl) ?_
        refine O.q (v := .bool true) (some 34) (Qu.eqv (u := .bool x3_3.2.2) (v := .bool true) (0, 0) [] (by kernel_rfl) (congrArg Value.bool hc3)) (by kernel_rfl) ?_
        refine O.pure 4 [] [1, 2, 5, 38] [] (fr' := [(1, .int .i64 a1), (2, .pointer (some ⟨p0_0, 0, none⟩)), (5, .pointer (some ⟨p3_8, 0, none⟩)), (38, .bool true)]) (bx' := [⟨p3_8, [.int .i64 x3_3.1.f0, .int .i64 x3_3.1.f1, .int .i64 x3_3.1.f2, .slice p3_3.1 x3_3.1.f3.length p3_3.2, .bool x3_3.1.f4], 24⟩, ⟨p0_0, [.int .i64 a0.f0, .int .i64 a0.f1, .int .i64 a0.f2, .slice h0.1 a0.f3.length h0.2, .bool a0.f4], 24⟩]) (by kernel_rfl) ?_
        refine O.nil (by kernel_rfl) ?_
        refine J.cond (o := .tmp 38) true (by kernel_rfl) (by kernel_rfl) ?_
        refine J.seq (by kernel_rfl) ?_
        refine J.region (by kernel_rfl) ?_
        refine O.pure 1 [] [4] [] (fr' := [(4, .bool false)]) (bx' := [⟨p3_8, [.int .i64 x3_3.1.f0, .int .i64 x3_3.1.f1, .int .i64 x3_3.1.f2, .slice p3_3.1 x3_3.1.f3.length p3_3.2, .bool x3_3.1.f4], 24⟩, ⟨p0_0, [.int .i64 a0.f0, .int .i64 a0.f1, .int .i64 a0.f2, .slice h0.1 a0.f3.length h0.2, .bool a0.f4], 24⟩]) (by kernel_rfl) ?_
        refine O.nil (by kernel_rfl) ?_
        obtain rfl := Option.some.inj H
        exact J.doneS [] [] [] [] [] () (vs := [.bool false]) (by kernel_rfl) (by kernel_rfl) (by kernel_rfl) (by kernel_rfl) (by kernel_rfl) (by decide)
      · refine J.region (by kernel_rfl) ?_
        refine O.q (v := .bool false) (some 34) (Qu.eqv (u := .bool x3_3.2.2) (v := .bool false) (0, 0) [] (by kernel_rfl) (congrArg Value.bool hc3)) (by kernel_rfl) ?_
        refine O.pure 4 [] [1, 2, 5, 38] [] (fr' := [(1, .int .i64 a1), (2, .pointer (some ⟨p0_0, 0, none⟩)), (5, .pointer (some ⟨p3_8, 0, none⟩)), (38, .bool (!(x3_3.2.1.toList == (⟨#[]⟩ : ByteArray).toList)))]) (bx' := [⟨p3_8, [.int .i64 x3_3.1.f0, .int .i64 x3_3.1.f1, .int .i64 x3_3.1.f2, .slice p3_3.1 x3_3.1.f3.length p3_3.2, .bool x3_3.1.f4], 24⟩, ⟨p0_0, [.int .i64 a0.f0, .int .i64 a0.f1, .int .i64 a0.f2, .slice h0.1 a0.f3.length h0.2, .bool a0.f4], 24⟩]) (by kernel_rfl) ?_
        refine O.nil (by kernel_rfl) ?_
        rcases condE H with ⟨hc4, H⟩ | ⟨hc4, H⟩
        · refine J.condT (x := .tmp 38) (t := (!(x3_3.2.1.toList == (⟨#[]⟩ : ByteArray).toList))) (by kernel_rfl) (by kernel_rfl) hc4 ?_
          refine J.seq (by kernel_rfl) ?_
          refine J.region (by kernel_rfl) ?_
          refine O.pure 1 [] [4] [] (fr' := [(4, .bool false)]) (bx' := [⟨p3_8, [.int .i64 x3_3.1.f0, .int .i64 x3_3.1.f1, .int .i64 x3_3.1.f2, .slice p3_3.1 x3_3.1.f3.length p3_3.2, .bool x3_3.1.f4], 24⟩, ⟨p0_0, [.int .i64 a0.f0, .int .i64 a0.f1, .int .i64 a0.f2, .slice h0.1 a0.f3.length h0.2, .bool a0.f4], 24⟩]) (by kernel_rfl) ?_
          refine O.nil (by kernel_rfl) ?_
          obtain rfl := Option.some.inj H
          exact J.doneS [] [] [] [] [] () (vs := [.bool false]) (by kernel_rfl) (by kernel_rfl) (by kernel_rfl) (by kernel_rfl) (by kernel_rfl) (by decide)
        · refine J.condF (x := .tmp 38) (t := (!(x3_3.2.1.toList == (⟨#[]⟩ : ByteArray).toList))) (by kernel_rfl) (by kernel_rfl) hc4 ?_
          refine J.skip (by kernel_rfl) ?_
          refine J.seq (by kernel_rfl) ?_
          refine J.seq (by kernel_rfl) ?_
          rcases condE H with ⟨hc5, H⟩ | ⟨hc5, H⟩
          · refine J.region (by kernel_rfl) ?_
            refine O.pure 1 [] [1, 2, 5, 39] [] (fr' := [(1, .int .i64 a1), (2, .pointer (some ⟨p0_0, 0, none⟩)), (5, .pointer (some ⟨p3_8, 0, none⟩)), (39, .int .i64 a1)]) (bx' := [⟨p3_8, [.int .i64 x3_3.1.f0, .int .i64 x3_3.1.f1, .int .i64 x3_3.1.f2, .slice p3_3.1 x3_3.1.f3.length p3_3.2, .bool x3_3.1.f4], 24⟩, ⟨p0_0, [.int .i64 a0.f0, .int .i64 a0.f1, .int .i64 a0.f2, .slice h0.1 a0.f3.length h0.2, .bool a0.f4], 24⟩]) (by kernel_rfl) ?_
            refine O.q (v := .bool true) (some 40) (Qu.eqv (u := .bool (decide (a1 < 0))) (v := .bool true) (0, 0) [] (by kernel_rfl) (congrArg Value.bool hc5)) (by kernel_rfl) ?_
            refine O.pure 6 [] [1, 2, 5, 46] [] (fr' := [(1, .int .i64 a1), (2, .pointer (some ⟨p0_0, 0, none⟩)), (5, .pointer (some ⟨p3_8, 0, none⟩)), (46, .bool true)]) (bx' := [⟨p3_8, [.int .i64 x3_3.1.f0, .int .i64 x3_3.1.f1, .int .i64 x3_3.1.f2, .slice p3_3.1 x3_3.1.f3.length p3_3.2, .bool x3_3.1.f4], 24⟩, ⟨p0_0, [.int .i64 a0.f0, .int .i64 a0.f1, .int .i64 a0.f2, .slice h0.1 a0.f3.length h0.2, .bool a0.f4], 24⟩]) (by kernel_rfl) ?_
            refine O.nil (by kernel_rfl) ?_
            refine J.cond (o := .tmp 46) true (by kernel_rfl) (by kernel_rfl) ?_
            refine J.seq (by kernel_rfl) ?_
            obtain ⟨x7_1, hx7_1, H⟩ := bindE H
            obtain ⟨x7_3, hx7_3, H⟩ := bindE H
            obtain ⟨x7_4, hx7_4, H⟩ := bindE H
            rcases condE H with ⟨hc6, H⟩ | ⟨hc6, H⟩
            · obtain ⟨x7_6, hx7_6, H⟩ := bindE H
              refine J.drawS (by kernel_rfl) [(0, some 47, .agg #[.int .i64 x3_3.1.f0, .int .i64 x3_3.1.f1, .int .i64 x3_3.1.f2, .slice p3_3.1 x3_3.1.f3.length p3_3.2, .bool x3_3.1.f4]), (2, some 49, .agg #[.int .i64 a0.f0, .int .i64 a0.f1, .int .i64 a0.f2, .slice h0.1 a0.f3.length h0.2, .bool a0.f4])] ([0, 2] ++ []) (by kernel_rfl) ?_
              refine D.mid (cs := [1]) [0, 2] [] [(0, 0), (1, 0)] [p3_8, 0, p0_0, 0] (by kernel_rfl) (by kernel_rfl) trivial (by kernel_rfl) ⟨?_, trivial⟩
              refine EvStep.mk (some 48) (new := fun p7_1 => []) ([2] ++ []) (by kernel_rfl) (Ev.call0 (xs := [.tmp 47]) [0] (by kernel_rfl) (by kernel_rfl) (fun w hS => haywainlaw16_as.con K x3_3.1 p3_3  _ _ w hS hx7_1)) (fun p7_1 => by kernel_rfl) (fun p7_1 => ?_)
              refine D.mid (cs := [3]) [2] [] [(1, 0)] [p0_0, 0] (by kernel_rfl) (by kernel_rfl) trivial (by kernel_rfl) ⟨?_, trivial⟩
              refine EvStep.mk (some 50) (new := fun p7_3 => []) ([] ++ []) (by kernel_rfl) (Ev.call0 (xs := [.tmp 49]) [2] (by kernel_rfl) (by kernel_rfl) (fun w hS => haywainlaw16_as.con K a0 h0  _ _ w hS hx7_3)) (fun p7_3 => by kernel_rfl) (fun p7_3 => ?_)
              refine D.mid (cs := [4]) [] [] [] [] (by kernel_rfl) (by kernel_rfl) trivial (by kernel_rfl) ⟨?_, trivial⟩
              refine EvStep.mk (some 51) (new := fun _ => [(5, some 52, .bool true)]) ([] ++ [5]) (by kernel_rfl) (Ev.mono (fun w hS => hS.rowsel [1, 0] rfl (by decide)) (Ev.mono (fun w hS => hS.freezeH) (Ev.mono (fun w hS => hS.freezeH) (Ev.call0 (xs := [.tmp 48, .tmp 50]) [1, 0] (by kernel_rfl) (by kernel_rfl) (fun w hS => haywainref16_Same.con K x7_1 x7_3 p7_1 p7_3  _ _ w hS hx7_4))))) (fun _ => by kernel_rfl) (fun _ => ?_)
              refine D.mid (cs := [6]) [] [5] [] [] (by kernel_rfl) (by kernel_rfl) (⟨QuAt.mk (v := .bool true) (some 52) (by kernel_rfl) (by kernel_rfl) (Qu.eqv (u := .bool x7_4) (v := .bool true) (0, 0) [] (by kernel_rfl) (congrArg Value.bool hc6)), trivial⟩) (by kernel_rfl) ⟨?_, trivial⟩
              refine EvStep.mk (some 53) (new := fun _ => [(7, some 54, .bool x7_6), (8, some 4, .bool x7_6)]) ([7, 8] ++ []) (by kernel_rfl) (Ev.call0 (xs := []) [] (by kernel_rfl) (by kernel_rfl) (fun w hS => haywainlaw16_knows.con K  _ _ w hS hx7_6)) (fun _ => by kernel_rfl) (fun _ => ?_)
              refine D.fin (fr' := [(4, .bool x7_6)]) [7, 8] [] [] [] [4] (by kernel_rfl) (by kernel_rfl) trivial (by kernel_rfl) ?_
              obtain rfl := Option.some.inj H
              exact J.doneS [] [] [] [] [] () (vs := [.bool x7_6]) (by kernel_rfl) (by kernel_rfl) (by kernel_rfl) (by kernel_rfl) (by kernel_rfl) (by decide)
            · refine J.drawS (by kernel_rfl) [(0, some 47, .agg #[.int .i64 x3_3.1.f0, .int .i64 x3_3.1.f1, .int .i64 x3_3.1.f2, .slice p3_3.1 x3_3.1.f3.length p3_3.2, .bool x3_3.1.f4]), (2, some 49, .agg #[.int .i64 a0.f0, .int .i64 a0.f1, .int .i64 a0.f2, .slice h0.1 a0.f3.length h0.2, .bool a0.f4])] ([0, 2] ++ []) (by kernel_rfl) ?_
              refine D.mid (cs := [1]) [0, 2] [] [(0, 0), (1, 0)] [p3_8, 0, p0_0, 0] (by kernel_rfl) (by kernel_rfl) trivial (by kernel_rfl) ⟨?_, trivial⟩
              refine EvStep.mk (some 48) (new := fun p7_1 => []) ([2] ++ []) (by kernel_rfl) (Ev.call0 (xs := [.tmp 47]) [0] (by kernel_rfl) (by kernel_rfl) (fun w hS => haywainlaw16_as.con K x3_3.1 p3_3  _ _ w hS hx7_1)) (fun p7_1 => by kernel_rfl) (fun p7_1 => ?_)
              refine D.mid (cs := [3]) [2] [] [(1, 0)] [p0_0, 0] (by kernel_rfl) (by kernel_rfl) trivial (by kernel_rfl) ⟨?_, trivial⟩
              refine EvStep.mk (some 50) (new := fun p7_3 => []) ([] ++ []) (by kernel_rfl) (Ev.call0 (xs := [.tmp 49]) [2] (by kernel_rfl) (by kernel_rfl) (fun w hS => haywainlaw16_as.con K a0 h0  _ _ w hS hx7_3)) (fun p7_3 => by kernel_rfl) (fun p7_3 => ?_)
              refine D.mid (cs := [4]) [] [] [] [] (by kernel_rfl) (by kernel_rfl) trivial (by kernel_rfl) ⟨?_, trivial⟩
              refine EvStep.mk (some 51) (new := fun _ => [(5, some 52, .bool false), (6, some 53, undef), (7, some 54, .bool false), (8, some 4, .bool false)]) ([6, 7, 8] ++ [5]) (by kernel_rfl) (Ev.mono (fun w hS => hS.rowsel [1, 0] rfl (by decide)) (Ev.mono (fun w hS => hS.freezeH) (Ev.mono (fun w hS => hS.freezeH) (Ev.call0 (xs := [.tmp 48, .tmp 50]) [1, 0] (by kernel_rfl) (by kernel_rfl) (fun w hS => haywainref16_Same.con K x7_1 x7_3 p7_1 p7_3  _ _ w hS hx7_4))))) (fun _ => by kernel_rfl) (fun _ => ?_)
              refine D.fin (fr' := [(4, .bool false)]) [6, 7, 8] [5] [] [] [4] (by kernel_rfl) (by kernel_rfl) (⟨QuAt.mk (v := .bool false) (some 52) (by kernel_rfl) (by kernel_rfl) (Qu.eqv (u := .bool x7_4) (v := .bool false) (0, 0) [] (by kernel_rfl) (congrArg Value.bool hc6)), trivial⟩) (by kernel_rfl) ?_
              obtain rfl := Option.some.inj H
              exact J.doneS [] [] [] [] [] () (vs := [.bool false]) (by kernel_rfl) (by kernel_rfl) (by kernel_rfl) (by kernel_rfl) (by kernel_rfl) (by decide)
          · refine J.region (by kernel_rfl) ?_
            refine O.pure 1 [] [1, 2, 5, 39] [] (fr' := [(1, .int .i64 a1), (2, .pointer (some ⟨p0_0, 0, none⟩)), (5, .pointer (some ⟨p3_8, 0, none⟩)), (39, .int .i64 a1)]) (bx' := [⟨p3_8, [.int .i64 x3_3.1.f0, .int .i64 x3_3.1.f1, .int .i64 x3_3.1.f2, .slice p3_3.1 x3_3.1.f3.length p3_3.2, .bool x3_3.1.f4], 24⟩, ⟨p0_0, [.int .i64 a0.f0, .int .i64 a0.f1, .int .i64 a0.f2, .slice h0.1 a0.f3.length h0.2, .bool a0.f4], 24⟩]) (by kernel_rfl) ?_
            refine O.q (v := .bool false) (some 40) (Qu.eqv (u := .bool (decide (a1 < 0))) (v := .bool false) (0, 0) [] (by kernel_rfl) (congrArg Value.bool hc5)) (by kernel_rfl) ?_
            refine O.pure 6 [(1, 0)] [1, 2, 5, 46] [p0_0, 0] (fr' := [(1, .int .i64 a1), (2, .pointer (some ⟨p0_0, 0, none⟩)), (5, .pointer (some ⟨p3_8, 0, none⟩)), (46, .bool (decide (a1 ≥ a0.f0)))]) (bx' := [⟨p3_8, [.int .i64 x3_3.1.f0, .int .i64 x3_3.1.f1, .int .i64 x3_3.1.f2, .slice p3_3.1 x3_3.1.f3.length p3_3.2, .bool x3_3.1.f4], 24⟩, ⟨p0_0, [.int .i64 a0.f0, .int .i64 a0.f1, .int .i64 a0.f2, .slice h0.1 a0.f3.length h0.2, .bool a0.f4], 24⟩]) (by kernel_rfl) ?_
            refine O.nil (by kernel_rfl) ?_
            rcases condE H with ⟨hc7, H⟩ | ⟨hc7, H⟩
            · refine J.condT (x := .tmp 46) (t := (decide (a1 ≥ a0.f0))) (by kernel_rfl) (by kernel_rfl) hc7 ?_
              refine J.seq (by kernel_rfl) ?_
              obtain ⟨x7_1, hx7_1, H⟩ := bindE H
              obtain ⟨x7_3, hx7_3, H⟩ := bindE H
              obtain ⟨x7_4, hx7_4, H⟩ := bindE H
              rcases condE H with ⟨hc8, H⟩ | ⟨hc8, H⟩
              · obtain ⟨x7_6, hx7_6, H⟩ := bindE H
                refine J.drawS (by kernel_rfl) [(0, some 47, .agg #[.int .i64 x3_3.1.f0, .int .i64 x3_3.1.f1, .int .i64 x3_3.1.f2, .slice p3_3.1 x3_3.1.f3.length p3_3.2, .bool x3_3.1.f4]), (2, some 49, .agg #[.int .i64 a0.f0, .int .i64 a0.f1, .int .i64 a0.f2, .slice h0.1 a0.f3.length h0.2, .bool a0.f4])] ([0, 2] ++ []) (by kernel_rfl) ?_
                refine D.mid (cs := [1]) [0, 2] [] [(0, 0), (1, 0)] [p3_8, 0, p0_0, 0] (by kernel_rfl) (by kernel_rfl) trivial (by kernel_rfl) ⟨?_, trivial⟩
                refine EvStep.mk (some 48) (new := fun p7_1 => []) ([2] ++ []) (by kernel_rfl) (Ev.call0 (xs := [.tmp 47]) [0] (by kernel_rfl) (by kernel_rfl) (fun w hS => haywainlaw16_as.con K x3_3.1 p3_3  _ _ w hS hx7_1)) (fun p7_1 => by kernel_rfl) (fun p7_1 => ?_)
                refine D.mid (cs := [3]) [2] [] [(1, 0)] [p0_0, 0] (by kernel_rfl) (by kernel_rfl) trivial (by kernel_rfl) ⟨?_, trivial⟩
                refine EvStep.mk (some 50) (new := fun p7_3 => []) ([] ++ []) (by kernel_rfl) (Ev.call0 (xs := [.tmp 49]) [2] (by kernel_rfl) (by kernel_rfl) (fun w hS => haywainlaw16_as.con K a0 h0  _ _ w hS hx7_3)) (fun p7_3 => by kernel_rfl) (fun p7_3 => ?_)
                refine D.mid (cs := [4]) [] [] [] [] (by kernel_rfl) (by kernel_rfl) trivial (by kernel_rfl) ⟨?_, trivial⟩
                refine EvStep.mk (some 51) (new := fun _ => [(5, some 52, .bool true)]) ([] ++ [5]) (by kernel_rfl) (Ev.mono (fun w hS => hS.rowsel [1, 0] rfl (by decide)) (Ev.mono (fun w hS => hS.freezeH) (Ev.mono (fun w hS => hS.freezeH) (Ev.call0 (xs := [.tmp 48, .tmp 50]) [1, 0] (by kernel_rfl) (by kernel_rfl) (fun w hS => haywainref16_Same.con K x7_1 x7_3 p7_1 p7_3  _ _ w hS hx7_4))))) (fun _ => by kernel_rfl) (fun _ => ?_)
                refine D.mid (cs := [6]) [] [5] [] [] (by kernel_rfl) (by kernel_rfl) (⟨QuAt.mk (v := .bool true) (some 52) (by kernel_rfl) (by kernel_rfl) (Qu.eqv (u := .bool x7_4) (v := .bool true) (0, 0) [] (by kernel_rfl) (congrArg Value.bool hc8)), trivial⟩) (by kernel_rfl) ⟨?_, trivial⟩
                refine EvStep.mk (some 53) (new := fun _ => [(7, some 54, .bool x7_6), (8, some 4, .bool x7_6)]) ([7, 8] ++ []) (by kernel_rfl) (Ev.call0 (xs := []) [] (by kernel_rfl) (by kernel_rfl) (fun w hS => haywainlaw16_knows.con K  _ _ w hS hx7_6)) (fun _ => by kernel_rfl) (fun _ => ?_)
                refine D.fin (fr' := [(4, .bool x7_6)]) [7, 8] [] [] [] [4] (by kernel_rfl) (by kernel_rfl) trivial (by kernel_rfl) ?_
                obtain rfl := Option.some.inj H
                exact J.doneS [] [] [] [] [] () (vs := [.bool x7_6]) (by kernel_rfl) (by kernel_rfl) (by kernel_rfl) (by kernel_rfl) (by kernel_rfl) (by decide)
              · refine J.drawS (by kernel_rfl) [(0, some 47, .agg #[.int .i64 x3_3.1.f0, .int .i64 x3_3.1.f1, .int .i64 x3_3.1.f2, .slice p3_3.1 x3_3.1.f3.length p3_3.2, .bool x3_3.1.f4]), (2, some 49, .agg #[.int .i64 a0.f0, .int .i64 a0.f1, .int .i64 a0.f2, .slice h0.1 a0.f3.length h0.2, .bool a0.f4])] ([0, 2] ++ []) (by kernel_rfl) ?_
                refine D.mid (cs := [1]) [0, 2] [] [(0, 0), (1, 0)] [p3_8, 0, p0_0, 0] (by kernel_rfl) (by kernel_rfl) trivial (by kernel_rfl) ⟨?_, trivial⟩
                refine EvStep.mk (some 48) (new := fun p7_1 => []) ([2] ++ []) (by kernel_rfl) (Ev.call0 (xs := [.tmp 47]) [0] (by kernel_rfl) (by kernel_rfl) (fun w hS => haywainlaw16_as.con K x3_3.1 p3_3  _ _ w hS hx7_1)) (fun p7_1 => by kernel_rfl) (fun p7_1 => ?_)
                refine D.mid (cs := [3]) [2] [] [(1, 0)] [p0_0, 0] (by kernel_rfl) (by kernel_rfl) trivial (by kernel_rfl) ⟨?_, trivial⟩
                refine EvStep.mk (some 50) (new := fun p7_3 => []) ([] ++ []) (by kernel_rfl) (Ev.call0 (xs := [.tmp 49]) [2] (by kernel_rfl) (by kernel_rfl) (fun w hS => haywainlaw16_as.con K a0 h0  _ _ w hS hx7_3)) (fun p7_3 => by kernel_rfl) (fun p7_3 => ?_)
                refine D.mid (cs := [4]) [] [] [] [] (by kernel_rfl) (by kernel_rfl) trivial (by kernel_rfl) ⟨?_, trivial⟩
                refine EvStep.mk (some 51) (new := fun _ => [(5, some 52, .bool false), (6, some 53, undef), (7, some 54, .bool false), (8, some 4, .bool false)]) ([6, 7, 8] ++ [5]) (by kernel_rfl) (Ev.mono (fun w hS => hS.rowsel [1, 0] rfl (by decide)) (Ev.mono (fun w hS => hS.freezeH) (Ev.mono (fun w hS => hS.freezeH) (Ev.call0 (xs := [.tmp 48, .tmp 50]) [1, 0] (by kernel_rfl) (by kernel_rfl) (fun w hS => haywainref16_Same.con K x7_1 x7_3 p7_1 p7_3  _ _ w hS hx7_4))))) (fun _ => by kernel_rfl) (fun _ => ?_)
                refine D.fin (fr' := [(4, .bool false)]) [6, 7, 8] [5] [] [] [4] (by kernel_rfl) (by kernel_rfl) (⟨QuAt.mk (v := .bool false) (some 52) (by kernel_rfl) (by kernel_rfl) (Qu.eqv (u := .bool x7_4) (v := .bool false) (0, 0) [] (by kernel_rfl) (congrArg Value.bool hc8)), trivial⟩) (by kernel_rfl) ?_
                obtain rfl := Option.some.inj H
                exact J.doneS [] [] [] [] [] () (vs := [.bool false]) (by kernel_rfl) (by kernel_rfl) (by kernel_rfl) (by kernel_rfl) (by kernel_rfl) (by decide)
            · refine J.condF (x := .tmp 46) (t := (decide (a1 ≥ a0.f0))) (by kernel_rfl) (by kernel_rfl) hc7 ?_
              refine J.skip (by kernel_rfl) ?_
              refine J.seq (by kernel_rfl) ?_
              refine J.seq (by kernel_rfl) ?_
              refine J.region (by kernel_rfl) ?_
              refine O.pure 1 [] [1, 5, 8] [] (fr' := [(1, .int .i64 a1), (5, .pointer (some ⟨p3_8, 0, none⟩)), (8, .int .i64 0)]) (bx' := [⟨p3_8, [.int .i64 x3_3.1.f0, .int .i64 x3_3.1.f1, .int .i64 x3_3.1.f2, .slice p3_3.1 x3_3.1.f3.length p3_3.2, .bool x3_3.1.f4], 24⟩, ⟨p0_0, [.int .i64 a0.f0, .int .i64 a0.f1, .int .i64 a0.f2, .slice h0.1 a0.f3.length h0.2, .bool a0.f4], 24⟩]) (by kernel_rfl) ?_
              refine O.nil (by kernel_rfl) ?_
              refine J.joinS (α := Unit) (γ := Unit) (fun o9 q9 => [(1, .int .i64 a1), (5, .pointer (some ⟨p3_8, 0, none⟩))]) (fun o9 q9 => St X w [] [⟨p3_8, [.int .i64 x3_3.1.f0, .int .i64 x3_3.1.f1, .int .i64 x3_3.1.f2, .slice p3_3.1 x3_3.1.f3.length p3_3.2, .bool x3_3.1.f4], 24⟩] [] [] [Rd kd71 p3_3.1 p3_3.2 x3_3.1.f3, Rd kd71 h0.1 h0.2 a0.f3]) H (fun o9 q9 H => ?_) (fun o9 H hj9 => ?_)
              · refine J.seq (by kernel_rfl) ?_
                refine J.region (by kernel_rfl) ?_
                refine O.pure 1 [] [1, 5, 9] [] (fr' := [(1, .int .i64 a1), (5, .pointer (some ⟨p3_8, 0, none⟩)), (9, .int .i64 0)]) (bx' := [⟨p3_8, [.int .i64 x3_3.1.f0, .int .i64 x3_3.1.f1, .int .i64 x3_3.1.f2, .slice p3_3.1 x3_3.1.f3.length p3_3.2, .bool x3_3.1.f4], 24⟩]) (by kernel_rfl) ?_
                refine O.nil (by kernel_rfl) ?_
                refine J.seq (by kernel_rfl) ?_
                refine J.seq (by kernel_rfl) ?_
                refine J.region (by kernel_rfl) ?_
                refine O.pure 1 [] [1, 5, 9, 10] [] (fr' := [(1, .int .i64 a1), (5, .pointer (some ⟨p3_8, 0, none⟩)), (9, .int .i64 0), (10, .int .i64 0)]) (bx' := [⟨p3_8, [.int .i64 x3_3.1.f0, .int .i64 x3_3.1.f1, .int .i64 x3_3.1.f2, .slice p3_3.1 x3_3.1.f3.length p3_3.2, .bool x3_3.1.f4], 24⟩]) (by kernel_rfl) ?_
                refine O.nil (by kernel_rfl) ?_
                refine J.joinS (α := Int × Int × Int × Int × (List S71) × Bool) (γ := Hd) (fun o17 q17 => [(5, .pointer (some ⟨p3_8, 0, none⟩)), (9, .int .i64 o17.1)]) (fun o17 q17 => St X w [] [⟨p3_8, [.int .i64 o17.2.1, .int .i64 o17.2.2.1, .int .i64 o17.2.2.2.1, .slice q17.1 o17.2.2.2.2.1.length q17.2, .bool o17.2.2.2.2.2], 24⟩] [] [] [Rd kd71 q17.1 q17.2 o17.2.2.2.2.1, Rd kd71 h0.1 h0.2 a0.f3]) H (fun o17 q17 H => ?_) (fun o17 H hj17 => ?_)
                · refine J.seq (by kernel_rfl) ?_
                  refine J.region (by kernel_rfl) ?_
                  refine O.pure 4 [(0, 3)] [9, 14] [p3_8, 3] (fr' := [(9, .int .i64 o17.1), (14, .int .i64 (o17.2.2.2.2.1.length : Int))]) (bx' := [⟨p3_8, [.int .i64 o17.2.1, .int .i64 o17.2.2.1, .int .i64 o17.2.2.2.1, .slice q17.1 o17.2.2.2.2.1.length q17.2, .bool o17.2.2.2.2.2], 24⟩]) (by kernel_rfl) ?_
                  refine O.nil (by kernel_rfl) ?_
                  refine J.seq (by kernel_rfl) ?_
                  refine J.seq (by kernel_rfl) ?_
                  refine J.region (by kernel_rfl) ?_
                  refine O.pure 2 [] [9, 14, 117] [] (fr' := [(9, .int .i64 o17.1), (14, .int .i64 (o17.2.2.2.2.1.length : Int)), (117, .bool (decide ((o17.2.2.2.2.1.length : Int) > 8)))]) (bx' := [⟨p3_8, [.int .i64 o17.2.1, .int .i64 o17.2.2.1, .int .i64 o17.2.2.2.1, .slice q17.1 o17.2.2.2.2.1.length q17.2, .bool o17.2.2.2.2.2], 24⟩]) (by kernel_rfl) ?_
                  refine O.nil (by kernel_rfl) ?_
                  refine J.join (α := Int) (γ := Unit) (fun o260 q260 => [(9, .int .i64 o17.1), (14, .int .i64 o260)]) (fun o260 q260 => St X w [] [] [] [] [Rd kd71 h0.1 h0.2 a0.f3]) H (fun o260 q260 H => ?_) (fun o260 H hj260 => ?_)
                  · refine J.seq (by kernel_rfl) ?_
                    rcases condE H with ⟨hc262, H⟩ | ⟨hc262, H⟩
                    · obtain ⟨x29_4, hx29_4, H⟩ := bindE H
                      refine J.region (by kernel_rfl) ?_
                      refine O.pure 2 [] [118, 119] [] (fr' := [(118, .int .i64 o17.1), (119, .int .i64 o260)]) (bx' := []) (by kernel_rfl) ?_
                      refine O.q (v := .bool true) (some 120) (Qu.eqv (u := .bool (o17.1 == o260)) (v := .bool true) (0, 0) [] (by kernel_rfl) (congrArg Value.bool hc262)) (by kernel_rfl) ?_
                      refine O.pure 1 [] [121] [] (fr' := [(121, .bool true)]) (bx' := []) (by kernel_rfl) ?_
                      refine O.e (some 122) (Ev.call0 (xs := []) [] (by kernel_rfl) (by kernel_rfl) (fun w hS => haywainlaw16_knows.con K  _ _ w hS hx29_4)) (by kernel_rfl) (fun _ => ?_)
                      refine O.pure 2 [] [4] [] (fr' := [(4, .bool x29_4)]) (bx' := []) (by kernel_rfl) ?_
                      refine O.nil (by kernel_rfl) ?_
                      obtain rfl := Option.some.inj H
                      exact J.doneS [] [] [] [] [] () (vs := [.bool x29_4]) (by kernel_rfl) (by kernel_rfl) (by kernel_rfl) (by kernel_rfl) (by kernel_rfl) (by decide)
                    · refine J.region (by kernel_rfl) ?_
                      refine O.pure 2 [] [118, 119] [] (fr' := [(118, .int .i64 o17.1), (119, .int .i64 o260)]) (bx' := []) (by kernel_rfl) ?_
                      refine O.q (v := .bool false) (some 120) (Qu.eqv (u := .bool (o17.1 == o260)) (v := .bool false) (0, 0) [] (by kernel_rfl) (congrArg Value.bool hc262)) (by kernel_rfl) ?_
                      refine O.pure 4 [] [4] [] (fr' := [(4, .bool false)]) (bx' := []) (by kernel_rfl) ?_
                      refine O.nil (by kernel_rfl) ?_
                      obtain rfl := Option.some.inj H
                      exact J.doneS [] [] [] [] [] () (vs := [.bool false]) (by kernel_rfl) (by kernel_rfl) (by kernel_rfl) (by kernel_rfl) (by kernel_rfl) (by decide)
                  · rcases condE H with ⟨hc263, H⟩ | ⟨hc263, H⟩
                    · refine J.condT (x := .tmp 117) (t := (decide ((o17.2.2.2.2.1.length : Int) > 8))) (by kernel_rfl) (by kernel_rfl) hc263 ?_
                      refine J.region (by kernel_rfl) ?_
                      refine O.pure 1 [] [9, 14] [] (fr' := [(9, .int .i64 o17.1), (14, .int .i64 8)]) (bx' := [⟨p3_8, [.int .i64 o17.2.1, .int .i64 o17.2.2.1, .int .i64 o17.2.2.2.1, .slice q17.1 o17.2.2.2.2.1.length q17.2, .bool o17.2.2.2.2.2], 24⟩]) (by kernel_rfl) ?_
                      refine O.nil (by kernel_rfl) ?_
                      obtain rfl := Option.some.inj H
                      exact J.conv2 [9, 14] [1] [] [] (by kernel_rfl) (by kernel_rfl) (by kernel_rfl) (by kernel_rfl) (by decide) (hj260 ())
                    · refine J.condF (x := .tmp 117) (t := (decide ((o17.2.2.2.2.1.length : Int) > 8))) (by kernel_rfl) (by kernel_rfl) hc263 ?_
                      refine J.skip (by kernel_rfl) ?_
                      obtain rfl := Option.some.inj H
                      exact J.conv2 [9, 14] [1] [] [] (by kernel_rfl) (by kernel_rfl) (by kernel_rfl) (by kernel_rfl) (by decide) (hj260 ())
                · refine J.block (id := 2) (by kernel_rfl) ?_
                  refine J.loopI (σ := Int × Int × Int × Int × Int × (List S71) × Bool) (γ := Hd) (f := fun m_ s_ => haywainlaw16_LinkAcked.l264 K a1 m_ s_) (fun s264 g264 => [(1, .int .i64 a1), (5, .pointer (some ⟨p3_8, 0, none⟩)), (9, .int .i64 s264.1), (10, .int .i64 s264.2.1)]) (fun s264 g264 => St X w [] [⟨p3_8, [.int .i64 s264.2.2.1, .int .i64 s264.2.2.2.1, .int .i64 s264.2.2.2.2.1, .slice g264.1 s264.2.2.2.2.2.1.length g264.2, .bool s264.2.2.2.2.2.2], 24⟩] [] [] [Rd kd71 g264.1 g264.2 s264.2.2.2.2.2.1, Rd kd71 h0.1 h0.2 a0.f3]) K (0, 0, x3_3.1.f0, x3_3.1.f1, x3_3.1.f2, x3_3.1.f3, x3_3.1.f4) p3_3 (by kernel_rfl) H (fun _ => rfl) (fun m_ s264 H ih264 g264 => ?_) (fun h_ => ?_)
                  · unfold haywainlaw16_LinkAcked.l264 at H
                    refine J.seq (by kernel_rfl) ?_
                    refine J.seq (by kernel_rfl) ?_
                    rcases condE H with ⟨hc425, H⟩ | ⟨hc425, H⟩
                    · refine J.region (by kernel_rfl) ?_
                      refine O.pure 1 [] [1, 5, 9, 10, 70] [] (fr' := [(1, .int .i64 a1), (5, .pointer (some ⟨p3_8, 0, none⟩)), (9, .int .i64 s264.1), (10, .int .i64 s264.2.1), (70, .int .i64 s264.2.1)]) (bx' := [⟨p3_8, [.int .i64 s264.2.2.1, .int .i64 s264.2.2.2.1, .int .i64 s264.2.2.2.2.1, .slice g264.1 s264.2.2.2.2.2.1.length g264.2, .bool s264.2.2.2.2.2.2], 24⟩]) (by kernel_rfl) ?_
                      refine O.q (v := .bool true) (some 71) (Qu.eqv (u := .bool (decide (s264.2.1 < 4))) (v := .bool true) (0, 0) [] (by kernel_rfl) (congrArg Value.bool hc425)) (by kernel_rfl) ?_
                      refine O.pure 4 [] [1, 5, 9, 10, 73, 74, 75] [] (fr' := [(1, .int .i64 a1), (5, .pointer (some ⟨p3_8, 0, none⟩)), (9, .int .i64 s264.1), (10, .int .i64 s264.2.1), (73, .int .i64 s264.1), (74, .bool (s264.1 == 0)), (75, .bool (s264.1 == 0))]) (bx' := [⟨p3_8, [.int .i64 s264.2.2.1, .int .i64 s264.2.2.2.1, .int .i64 s264.2.2.2.2.1, .slice g264.1 s264.2.2.2.2.2.1.length g264.2, .bool s264.2.2.2.2.2.2], 24⟩]) (by kernel_rfl) ?_
                      refine O.nil (by kernel_rfl) ?_
                      rcases condE H with ⟨hc426, H⟩ | ⟨hc426, H⟩
                      · refine J.condT (x := .tmp 75) (t := (s264.1 == 0)) (by kernel_rfl) (by kernel_rfl) hc426 ?_
                        refine J.skip (by kernel_rfl) ?_
                        refine J.seq (by kernel_rfl) ?_
                        refine J.joinS (α := Int × Int × Int × Int × (List S71) × Bool) (γ := Hd) (fun o427 q427 => [(1, .int .i64 a1), (5, .pointer (some ⟨p3_8, 0, none⟩)), (9, .int .i64 o427.1), (10, .int .i64 s264.2.1), (73, .int .i64 s264.1), (74, .bool (s264.1 == 0))]) (fun o427 q427 => St X w [] [⟨p3_8, [.int .i64 o427.2.1, .int .i64 o427.2.2.1, .int .i64 o427.2.2.2.1, .slice q427.1 o427.2.2.2.2.1.length q427.2, .bool o427.2.2.2.2.2], 24⟩] [] [] [Rd kd71 q427.1 q427.2 o427.2.2.2.2.1, Rd kd71 h0.1 h0.2 a0.f3]) H (fun o427 q427 H => ?_) (fun o427 H hj427 => ?_)
                        · refine J.region (by kernel_rfl) ?_
                          refine O.pure 3 [] [1, 5, 9, 10, 73, 74] [] (fr' := [(1, .int .i64 a1), (5, .pointer (some ⟨p3_8, 0, none⟩)), (9, .int .i64 o427.1), (10, .int .i64 (IntKind.wrap .i64 (s264.2.1 + 1))), (73, .int .i64 s264.1), (74, .bool (s264.1 == 0))]) (bx' := [⟨p3_8, [.int .i64 o427.2.1, .int .i64 o427.2.2.1, .int .i64 o427.2.2.2.1, .slice q427.1 o427.2.2.2.2.1.length q427.2, .bool o427.2.2.2.2.2], 24⟩]) (by kernel_rfl) ?_
                          refine O.nil (by kernel_rfl) ?_
                          exact J.conv2 [1, 5, 9, 10] [0, 1] [0] [] (by kernel_rfl) (by kernel_rfl) (by kernel_rfl) (by kernel_rfl) (by decide) (ih264 (o427.1, (IntKind.wrap .i64 (s264.2.1 + 1)), o427.2.1, o427.2.2.1, o427.2.2.2.1, o427.2.2.2.2.1, o427.2.2.2.2.2) q427 H)
                        · refine J.block (id := 3) (by kernel_rfl) ?_
                          refine J.seq (by kernel_rfl) ?_
                          obtain ⟨x17_1, hx17_1, H⟩ := bindE H
                          refine J.region (by kernel_rfl) ?_
                          refine O.pure 1 [(0, 0)] [1, 5, 9, 10, 73, 74, 79] [p3_8, 0] (fr' := [(1, .int .i64 a1), (5, .pointer (some ⟨p3_8, 0, none⟩)), (9, .int .i64 s264.1), (10, .int .i64 s264.2.1), (73, .int .i64 s264.1), (74, .bool (s264.1 == 0)), (79, .agg #[.int .i64 s264.2.2.1, .int .i64 s264.2.2.2.1, .int .i64 s264.2.2.2.2.1, .slice g264.1 s264.2.2.2.2.2.1.length g264.2, .bool s264.2.2.2.2.2.2])]) (bx' := [⟨p3_8, [.int .i64 s264.2.2.1, .int .i64 s264.2.2.2.1, .int .i64 s264.2.2.2.2.1, .slice g264.1 s264.2.2.2.2.2.1.length g264.2, .bool s264.2.2.2.2.2.2], 24⟩]) (by kernel_rfl) ?_
                          refine O.e (some 80) (Ev.call0 (xs := [.tmp 79]) [0] (by kernel_rfl) (by kernel_rfl) (fun w hS => link_Tick.con K (⟨s264.2.2.1, s264.2.2.2.1, s264.2.2.2.2.1, s264.2.2.2.2.2.1, s264.2.2.2.2.2.2⟩ : S24) g264  _ _ w hS hx17_1)) (by kernel_rfl) (fun p17_1 => ?_)
                          refine O.pure 3 [] [1, 5, 9, 10, 73, 74, 81, 82] [] (fr' := [(1, .int .i64 a1), (5, .pointer (some ⟨p3_8, 0, none⟩)), (9, .int .i64 s264.1), (10, .int .i64 s264.2.1), (73, .int .i64 s264.1), (74, .bool (s264.1 == 0)), (81, .agg #[.int .i64 x17_1.1.f0, .int .i64 x17_1.1.f1, .int .i64 x17_1.1.f2, .slice p17_1.1.1 x17_1.1.f3.length p17_1.1.2, .bool x17_1.1.f4]), (82, .slice p17_1.2.1 x17_1.2.length p17_1.2.2)]) (bx' := [⟨p3_8, [.int .i64 s264.2.2.1, .int .i64 s264.2.2.2.1, .int .i64 s264.2.2.2.2.1, .slice g264.1 s264.2.2.2.2.2.1.length g264.2, .bool s264.2.2.2.2.2.2], 24⟩]) (by kernel_rfl) ?_
                          refine O.e (some 11) (Ev.alloc (t := 24) (z := .agg #[.int .i64 0, .int .i64 0, .int .i64 0, .slice none 0 0, .bool false]) (by kernel_rfl) (by kernel_rfl)) (by kernel_rfl) (fun p17_5 => ?_)
                          refine O.pure 2 [(0, 0)] [1, 5, 9, 10, 11, 12, 73, 74] [p17_5, 0] (fr' := [(1, .int .i64 a1), (5, .pointer (some ⟨p3_8, 0, none⟩)), (9, .int .i64 s264.1), (10, .int .i64 s264.2.1), (11, .pointer (some ⟨p17_5, 0, none⟩)), (12, .slice p17_1.2.1 x17_1.2.length p17_1.2.2), (73, .int .i64 s264.1), (74, .bool (s264.1 == 0))]) (bx' := [⟨p17_5, [.int .i64 x17_1.1.f0, .int .i64 x17_1.1.f1, .int .i64 x17_1.1.f2, .slice p17_1.1.1 x17_1.1.f3.length p17_1.1.2, .bool x17_1.1.f4], 24⟩, ⟨p3_8, [.int .i64 s264.2.2.1, .int .i64 s264.2.2.2.1, .int .i64 s264.2.2.2.2.1, .slice g264.1 s264.2.2.2.2.2.1.length g264.2, .bool s264.2.2.2.2.2.2], 24⟩]) (by kernel_rfl) ?_
                          refine O.nil (by kernel_rfl) ?_
                          refine J.seq (by kernel_rfl) ?_
                          refine J.region (by kernel_rfl) ?_
                          refine O.pure 2 [(0, 0), (1, 0)] [1, 5, 9, 10, 12, 73, 74] [p17_5, 0, p3_8, 0] (fr' := [(1, .int .i64 a1), (5, .pointer (some ⟨p3_8, 0, none⟩)), (9, .int .i64 s264.1), (10, .int .i64 s264.2.1), (12, .slice p17_1.2.1 x17_1.2.length p17_1.2.2), (73, .int .i64 s264.1), (74, .bool (s264.1 == 0))]) (bx' := [⟨p17_5, [.int .i64 x17_1.1.f0, .int .i64 x17_1.1.f1, .int .i64 x17_1.1.f2, .slice p17_1.1.1 x17_1.1.f3.length p17_1.1.2, .bool x17_1.1.f4], 24⟩, ⟨p3_8, [.int .i64 x17_1.1.f0, .int .i64 x17_1.1.f1, .int .i64 x17_1.1.f2, .slice p17_1.1.1 x17_1.1.f3.length p17_1.1.2, .bool x17_1.1.f4], 24⟩]) (by kernel_rfl) ?_
                          refine O.nil (by kernel_rfl) ?_
                          refine J.seq (by kernel_rfl) ?_
                          refine J.region (by kernel_rfl) ?_
                          refine O.pure 1 [] [1, 5, 9, 10, 12, 13, 73, 74] [] (fr' := [(1, .int .i64 a1), (5, .pointer (some ⟨p3_8, 0, none⟩)), (9, .int .i64 s264.1), (10, .int .i64 s264.2.1), (12, .slice p17_1.2.1 x17_1.2.length p17_1.2.2), (13, .int .i64 0), (73, .int .i64 s264.1), (74, .bool (s264.1 == 0))]) (bx' := [⟨p17_5, [.int .i64 x17_1.1.f0, .int .i64 x17_1.1.f1, .int .i64 x17_1.1.f2, .slice p17_1.1.1 x17_1.1.f3.length p17_1.1.2, .bool x17_1.1.f4], 24⟩, ⟨p3_8, [.int .i64 x17_1.1.f0, .int .i64 x17_1.1.f1, .int .i64 x17_1.1.f2, .slice p17_1.1.1 x17_1.1.f3.length p17_1.1.2, .bool x17_1.1.f4], 24⟩]) (by kernel_rfl) ?_
                          refine O.nil (by kernel_rfl) ?_
                          refine J.joinS (α := Int) (γ := Unit) (fun o467 q467 => [(1, .int .i64 a1), (5, .pointer (some ⟨p3_8, 0, none⟩)), (9, .int .i64 o467), (10, .int .i64 s264.2.1), (73, .int .i64 s264.1), (74, .bool (s264.1 == 0))]) (fun o467 q467 => St X w [] [⟨p3_8, [.int .i64 x17_1.1.f0, .int .i64 x17_1.1.f1, .int .i64 x17_1.1.f2, .slice p17_1.1.1 x17_1.1.f3.length p17_1.1.2, .bool x17_1.1.f4], 24⟩] [] [] [Rd kd71 p17_1.1.1 p17_1.1.2 x17_1.1.f3, Rd kd71 h0.1 h0.2 a0.f3]) H (fun o467 q467 H => ?_) (fun o467 H hj467 => ?_)
                          · refine J.out ?_
                            obtain rfl := Option.some.inj H
                            exact J.conv2 [1, 5, 9, 10, 73, 74] [0, 1] [0] [] (by kernel_rfl) (by kernel_rfl) (by kernel_rfl) (by kernel_rfl) (by decide) (hj427.1 _ rfl p17_1.1)
                          · refine J.block (id := 4) (by kernel_rfl) ?_
                            refine J.loopI (σ := Int × Int) (γ := Unit) (f := fun m_ s_ => haywainlaw16_LinkAcked.l487 K a1 x17_1 m_ s_) (fun s487 g487 => [(1, .int .i64 a1), (5, .pointer (some ⟨p3_8, 0, none⟩)), (9, .int .i64 s487.1), (10, .int .i64 s264.2.1), (12, .slice p17_1.2.1 x17_1.2.length p17_1.2.2), (13, .int .i64 s487.2), (73, .int .i64 s264.1), (74, .bool (s264.1 == 0))]) (fun s487 g487 => St X w [] [⟨p3_8, [.int .i64 x17_1.1.f0, .int .i64 x17_1.1.f1, .int .i64 x17_1.1.f2, .slice p17_1.1.1 x17_1.1.f3.length p17_1.1.2, .bool x17_1.1.f4], 24⟩] [] [] [Rd kd71 p17_1.1.1 p17_1.1.2 x17_1.1.f3, Rd kd71 h0.1 h0.2 a0.f3, Rd kd37 p17_1.2.1 p17_1.2.2 x17_1.2]) K (s264.1, 0) () (by kernel_rfl) H (fun _ => rfl) (fun m_ s487 H ih487 g487 => ?_) (fun h_ => ?_)
                            · unfold haywainlaw16_LinkAcked.l487 at H
                              refine J.seq (by kernel_rfl) ?_
                              refine J.seq (by kernel_rfl) ?_
                              refine J.region (by kernel_rfl) ?_
                              refine O.pure 4 [] [1, 5, 9, 10, 12, 13, 73, 74, 87] [] (fr' := [(1, .int .i64 a1), (5, .pointer (some ⟨p3_8, 0, none⟩)), (9, .int .i64 s487.1), (10, .int .i64 s264.2.1), (12, .slice p17_1.2.1 x17_1.2.length p17_1.2.2), (13, .int .i64 s487.2), (73, .int .i64 s264.1), (74, .bool (s264.1 == 0)), (87, .bool (decide (s487.2 < (x17_1.2.length : Int))))]) (bx' := [⟨p3_8, [.int .i64 x17_1.1.f0, .int .i64 x17_1.1.f1, .int .i64 x17_1.1.f2, .slice p17_1.1.1 x17_1.1.f3.length p17_1.1.2, .bool x17_1.1.f4], 24⟩]) (by kernel_rfl) ?_
                              refine O.nil (by kernel_rfl) ?_
                              rcases condE H with ⟨hc500, H⟩ | ⟨hc500, H⟩
                              · refine J.condT (x := .tmp 87) (t := (decide (s487.2 < (x17_1.2.length : Int)))) (by kernel_rfl) (by kernel_rfl) hc500 ?_
                                refine J.skip (by kernel_rfl) ?_
                                refine J.seq (by kernel_rfl) ?_
                                refine J.block (id := 5) (by kernel_rfl) ?_
                                refine J.seq (by kernel_rfl) ?_
                                refine J.seq (by kernel_rfl) ?_
                                obtain ⟨x22_2, hx22_2, H⟩ := bindE H
                                obtain ⟨hx22_2a, hx22_2⟩ := idxE hx22_2
                                refine J.region (by kernel_rfl) ?_
                                refine O.pure 2 [] [1, 5, 9, 10, 12, 13, 73, 74, 90, 91] [] (fr' := [(1, .int .i64 a1), (5, .pointer (some ⟨p3_8, 0, none⟩)), (9, .int .i64 s487.1), (10, .int .i64 s264.2.1), (12, .slice p17_1.2.1 x17_1.2.length p17_1.2.2), (13, .int .i64 s487.2), (73, .int .i64 s264.1), (74, .bool (s264.1 == 0)), (90, .slice p17_1.2.1 x17_1.2.length p17_1.2.2), (91, .int .i64 s487.2)]) (bx' := [⟨p3_8, [.int .i64 x17_1.1.f0, .int .i64 x17_1.1.f1, .int .i64 x17_1.1.f2, .slice p17_1.1.1 x17_1.1.f3.length p17_1.1.2, .bool x17_1.1.f4], 24⟩]) (by kernel_rfl) ?_
                                refine O.open (d := kd37) (h := p17_1.2) (i := s487.2) 2 rfl hx22_2 (op37 _) (fun p22_2 hp22_2A => ?_)
                                refine O.q (v := .pointer (some ⟨p22_2.1, p22_2.2.1 + s487.2.toNat * 3, none⟩)) (some 92) (Qu.idx (t := 45) (x := .tmp 90) (y := .tmp 91) (c := p17_1.2.2) (kk := .i64) (sz := 3) (by kernel_rfl) (by kernel_rfl) (by kernel_rfl) (by kernel_rfl) hx22_2a (idx_lt hx22_2) hp22_2A) (by kernel_rfl) ?_
                                refine O.pure 3 [(1, 0)] [1, 5, 9, 10, 12, 13, 73, 74, 95] [p22_2.1, p22_2.2.1 + s487.2.toNat * 3] (fr' := [(1, .int .i64 a1), (5, .pointer (some ⟨p3_8, 0, none⟩)), (9, .int .i64 s487.1), (10, .int .i64 s264.2.1), (12, .slice p17_1.2.1 x17_1.2.length p17_1.2.2), (13, .int .i64 s487.2), (73, .int .i64 s264.1), (74, .bool (s264.1 == 0)), (95, .bool (decide (x22_2.f0 > 0)))]) (bx' := [⟨p3_8, [.int .i64 x17_1.1.f0, .int .i64 x17_1.1.f1, .int .i64 x17_1.1.f2, .slice p17_1.1.1 x17_1.1.f3.length p17_1.1.2, .bool x17_1.1.f4], 24⟩]) (by kernel_rfl) ?_
                                refine O.nil (by kernel_rfl) ?_
                                refine J.join (α := Int) (γ := Unit) (fun o501 q501 => [(1, .int .i64 a1), (5, .pointer (some ⟨p3_8, 0, none⟩)), (9, .int .i64 o501), (10, .int .i64 s264.2.1), (12, .slice p17_1.2.1 x17_1.2.length p17_1.2.2), (13, .int .i64 s487.2), (73, .int .i64 s264.1), (74, .bool (s264.1 == 0))]) (fun o501 q501 => St X w [] [⟨p3_8, [.int .i64 x17_1.1.f0, .int .i64 x17_1.1.f1, .int .i64 x17_1.1.f2, .slice p17_1.1.1 x17_1.1.f3.length p17_1.1.2, .bool x17_1.1.f4], 24⟩] [] [] [Rd kd71 p17_1.1.1 p17_1.1.2 x17_1.1.f3, Rd kd71 h0.1 h0.2 a0.f3, Rd kd37 p17_1.2.1 p17_1.2.2 x17_1.2]) H (fun o501 q501 H => ?_) (fun o501 H hj501 => ?_)
                                · refine J.seq (by kernel_rfl) ?_
                                  obtain ⟨x24_2, hx24_2, H⟩ := bindE H
                                  obtain ⟨hx24_2a, hx24_2⟩ := idxE hx24_2
                                  rcases condE H with ⟨hc503, H⟩ | ⟨hc503, H⟩
                                  · obtain ⟨x24_9, hx24_9, H⟩ := bindE H
                                    obtain ⟨hx24_9a, hx24_9⟩ := idxE hx24_9
                                    refine J.region (by kernel_rfl) ?_
                                    refine O.pure 2 [] [1, 5, 9, 10, 12, 13, 73, 74, 98, 99] [] (fr' := [(1, .int .i64 a1), (5, .pointer (some ⟨p3_8, 0, none⟩)), (9, .int .i64 o501), (10, .int .i64 s264.2.1), (12, .slice p17_1.2.1 x17_1.2.length p17_1.2.2), (13, .int .i64 s487.2), (73, .int .i64 s264.1), (74, .bool (s264.1 == 0)), (98, .slice p17_1.2.1 x17_1.2.length p17_1.2.2), (99, .int .i64 s487.2)]) (bx' := [⟨p3_8, [.int .i64 x17_1.1.f0, .int .i64 x17_1.1.f1, .int .i64 x17_1.1.f2, .slice p17_1.1.1 x17_1.1.f3.length p17_1.1.2, .bool x17_1.1.f4], 24⟩]) (by kernel_rfl) ?_
                                    refine O.open (d := kd37) (h := p17_1.2) (i := s487.2) 2 rfl hx24_2 (op37 _) (fun p24_2 hp24_2A => ?_)
                                    refine O.q (v := .pointer (some ⟨p24_2.1, p24_2.2.1 + s487.2.toNat * 3, none⟩)) (some 100) (Qu.idx (t := 45) (x := .tmp 98) (y := .tmp 99) (c := p17_1.2.2) (kk := .i64) (sz := 3) (by kernel_rfl) (by kernel_rfl) (by kernel_rfl) (by kernel_rfl) hx24_2a (idx_lt hx24_2) hp24_2A) (by kernel_rfl) ?_
                                    refine O.pure 2 [(1, 0)] [1, 5, 9, 10, 12, 13, 73, 74, 102] [p24_2.1, p24_2.2.1 + s487.2.toNat * 3] (fr' := [(1, .int .i64 a1), (5, .pointer (some ⟨p3_8, 0, none⟩)), (9, .int .i64 o501), (10, .int .i64 s264.2.1), (12, .slice p17_1.2.1 x17_1.2.length p17_1.2.2), (13, .int .i64 s487.2), (73, .int .i64 s264.1), (74, .bool (s264.1 == 0)), (102, .int .i64 x24_2.f0)]) (bx' := [⟨p3_8, [.int .i64 x17_1.1.f0, .int .i64 x17_1.1.f1, .int .i64 x17_1.1.f2, .slice p17_1.1.1 x17_1.1.f3.length p17_1.1.2, .bool x17_1.1.f4], 24⟩]) (by kernel_rfl) ?_
                                    refine O.q (v := .bool true) (some 103) (Qu.eqv (u := .bool (decide (x24_2.f0 > 0))) (v := .bool true) (0, 0) [] (by kernel_rfl) (congrArg Value.bool hc503)) (by kernel_rfl) ?_
                                    refine O.pure 3 [] [1, 5, 9, 10, 12, 13, 73, 74, 104, 105, 106] [] (fr' := [(1, .int .i64 a1), (5, .pointer (some ⟨p3_8, 0, none⟩)), (9, .int .i64 o501), (10, .int .i64 s264.2.1), (12, .slice p17_1.2.1 x17_1.2.length p17_1.2.2), (13, .int .i64 s487.2), (73, .int .i64 s264.1), (74, .bool (s264.1 == 0)), (104, .bool true), (105, .slice p17_1.2.1 x17_1.2.length p17_1.2.2), (106, .int .i64 s487.2)]) (bx' := [⟨p3_8, [.int .i64 x17_1.1.f0, .int .i64 x17_1.1.f1, .int .i64 x17_1.1.f2, .slice p17_1.1.1 x17_1.1.f3.length p17_1.1.2, .bool x17_1.1.f4], 24⟩]) (by kernel_rfl) ?_
                                    refine O.open (d := kd37) (h := p17_1.2) (i := s487.2) 2 rfl hx24_9 (op37 _) (fun p24_9 hp24_9A => ?_)
                                    refine O.q (v := .pointer (some ⟨p24_9.1, p24_9.2.1 + s487.2.toNat * 3, none⟩)) (some 107) (Qu.idx (t := 45) (x := .tmp 105) (y := .tmp 106) (c := p17_1.2.2) (kk := .i64) (sz := 3) (by kernel_rfl) (by kernel_rfl) (by kernel_rfl) (by kernel_rfl) hx24_9a (idx_lt hx24_9) hp24_9A) (by kernel_rfl) ?_
                                    refine O.pure 5 [(1, 0)] [1, 5, 9, 10, 12, 13, 73, 74, 105, 106, 107, 108, 109, 110, 111, 112] [p24_9.1, p24_9.2.1 + s487.2.toNat * 3] (fr' := [(1, .int .i64 a1), (5, .pointer (some ⟨p3_8, 0, none⟩)), (9, .int .i64 o501), (10, .int .i64 s264.2.1), (12, .slice p17_1.2.1 x17_1.2.length p17_1.2.2), (13, .int .i64 s487.2), (73, .int .i64 s264.1), (74, .bool (s264.1 == 0)), (105, .slice p17_1.2.1 x17_1.2.length p17_1.2.2), (106, .int .i64 s487.2), (107, .pointer (some ⟨p24_9.1, p24_9.2.1 + s487.2.toNat * 3, none⟩)), (108, .pointer (some ⟨p24_9.1, p24_9.2.1 + s487.2.toNat * 3, none⟩)), (109, .int .i64 x24_9.f0), (110, .int .i64 a1), (111, .bool (decide (x24_9.f0 ≤ a1))), (112, .bool (decide (x24_9.f0 ≤ a1)))]) (bx' := [⟨p3_8, [.int .i64 x17_1.1.f0, .int .i64 x17_1.1.f1, .int .i64 x17_1.1.f2, .slice p17_1.1.1 x17_1.1.f3.length p17_1.1.2, .bool x17_1.1.f4], 24⟩]) (by kernel_rfl) ?_
                                    refine O.nil (by kernel_rfl) ?_
                                    rcases condE H with ⟨hc504, H⟩ | ⟨hc504, H⟩
                                    · refine J.condT (x := .tmp 112) (t := (decide (x24_9.f0 ≤ a1))) (by kernel_rfl) (by kernel_rfl) hc504 ?_
                                      refine J.seq (by kernel_rfl) ?_
                                      refine J.region (by kernel_rfl) ?_
                                      refine O.pure 1 [] [4] [] (fr' := [(4, .bool false)]) (bx' := [⟨p3_8, [.int .i64 x17_1.1.f0, .int .i64 x17_1.1.f1, .int .i64 x17_1.1.f2, .slice p17_1.1.1 x17_1.1.f3.length p17_1.1.2, .bool x17_1.1.f4], 24⟩]) (by kernel_rfl) ?_
                                      refine O.nil (by kernel_rfl) ?_
                                      obtain rfl := Option.some.inj H
                                      obtain rfl := hj467.2 _ rfl
                                      obtain rfl := hj427.2 _ rfl
                                      obtain rfl := hj17.2 _ rfl
                                      exact J.doneS [] [] [] [] [] () (vs := [.bool false]) (by kernel_rfl) (by kernel_rfl) (by kernel_rfl) (by kernel_rfl) (by kernel_rfl) (by decide)
                                    · refine J.condF (x := .tmp 112) (t := (decide (x24_9.f0 ≤ a1))) (by kernel_rfl) (by kernel_rfl) hc504 ?_
                                      refine J.skip (by kernel_rfl) ?_
                                      refine J.out ?_
                                      refine J.region (by kernel_rfl) ?_
                                      refine O.pure 3 [] [1, 5, 9, 10, 12, 13, 73, 74, 105, 106, 107, 108, 109, 110, 111] [] (fr' := [(1, .int .i64 a1), (5, .pointer (some ⟨p3_8, 0, none⟩)), (9, .int .i64 o501), (10, .int .i64 s264.2.1), (12, .slice p17_1.2.1 x17_1.2.length p17_1.2.2), (13, .int .i64 (IntKind.wrap .i64 (s487.2 + 1))), (73, .int .i64 s264.1), (74, .bool (s264.1 == 0)), (105, .slice p17_1.2.1 x17_1.2.length p17_1.2.2), (106, .int .i64 s487.2), (107, .pointer (some ⟨p24_9.1, p24_9.2.1 + s487.2.toNat * 3, none⟩)), (108, .pointer (some ⟨p24_9.1, p24_9.2.1 + s487.2.toNat * 3, none⟩)), (109, .int .i64 x24_9.f0), (110, .int .i64 a1), (111, .bool (decide (x24_9.f0 ≤ a1)))]) (bx' := [⟨p3_8, [.int .i64 x17_1.1.f0, .int .i64 x17_1.1.f1, .int .i64 x17_1.1.f2, .slice p17_1.1.1 x17_1.1.f3.length p17_1.1.2, .bool x17_1.1.f4], 24⟩]) (by kernel_rfl) ?_
                                      refine O.nil (by kernel_rfl) ?_
                                      exact J.conv2 [1, 5, 9, 10, 12, 13, 73, 74] [0, 1, 2] [0] [] (by kernel_rfl) (by kernel_rfl) (by kernel_rfl) (by kernel_rfl) (by decide) (ih487 (o501, (IntKind.wrap .i64 (s487.2 + 1))) () H)
                                  · refine J.region (by kernel_rfl) ?_
                                    refine O.pure 2 [] [1, 5, 9, 10, 12, 13, 73, 74, 98, 99] [] (fr' := [(1, .int .i64 a1), (5, .pointer (some ⟨p3_8, 0, none⟩)), (9, .int .i64 o501), (10, .int .i64 s264.2.1), (12, .slice p17_1.2.1 x17_1.2.length p17_1.2.2), (13, .int .i64 s487.2), (73, .int .i64 s264.1), (74, .bool (s264.1 == 0)), (98, .slice p17_1.2.1 x17_1.2.length p17_1.2.2), (99, .int .i64 s487.2)]) (bx' := [⟨p3_8, [.int .i64 x17_1.1.f0, .int .i64 x17_1.1.f1, .int .i64 x17_1.1.f2, .slice p17_1.1.1 x17_1.1.f3.length p17_1.1.2, .bool x17_1.1.f4], 24⟩]) (by kernel_rfl) ?_
                                    refine O.open (d := kd37) (h := p17_1.2) (i := s487.2) 2 rfl hx24_2 (op37 _) (fun p24_2 hp24_2A => ?_)
                                    refine O.q (v := .pointer (some ⟨p24_2.1, p24_2.2.1 + s487.2.toNat * 3, none⟩)) (some 100) (Qu.idx (t := 45) (x := .tmp 98) (y := .tmp 99) (c := p17_1.2.2) (kk := .i64) (sz := 3) (by kernel_rfl) (by kernel_rfl) (by kernel_rfl) (by kernel_rfl) hx24_2a (idx_lt hx24_2) hp24_2A) (by kernel_rfl) ?_
                                    refine O.pure 2 [(1, 0)] [1, 5, 9, 10, 12, 13, 73, 74, 102] [p24_2.1, p24_2.2.1 + s487.2.toNat * 3] (fr' := [(1, .int .i64 a1), (5, .pointer (some ⟨p3_8, 0, none⟩)), (9, .int .i64 o501), (10, .int .i64 s264.2.1), (12, .slice p17_1.2.1 x17_1.2.length p17_1.2.2), (13, .int .i64 s487.2), (73, .int .i64 s264.1), (74, .bool (s264.1 == 0)), (102, .int .i64 x24_2.f0)]) (bx' := [⟨p3_8, [.int .i64 x17_1.1.f0, .int .i64 x17_1.1.f1, .int .i64 x17_1.1.f2, .slice p17_1.1.1 x17_1.1.f3.length p17_1.1.2, .bool x17_1.1.f4], 24⟩]) (by kernel_rfl) ?_
                                    refine O.q (v := .bool false) (some 103) (Qu.eqv (u := .bool (decide (x24_2.f0 > 0))) (v := .bool false) (0, 0) [] (by kernel_rfl) (congrArg Value.bool hc503)) (by kernel_rfl) ?_
                                    refine O.pure 9 [] [1, 5, 9, 10, 12, 13, 73, 74, 105, 106, 107, 108, 109, 110, 111, 112] [] (fr' := [(1, .int .i64 a1), (5, .pointer (some ⟨p3_8, 0, none⟩)), (9, .int .i64 o501), (10, .int .i64 s264.2.1), (12, .slice p17_1.2.1 x17_1.2.length p17_1.2.2), (13, .int .i64 s487.2), (73, .int .i64 s264.1), (74, .bool (s264.1 == 0)), (105, undef), (106, undef), (107, undef), (108, undef), (109, undef), (110, undef), (111, undef), (112, .bool false)]) (bx' := [⟨p3_8, [.int .i64 x17_1.1.f0, .int .i64 x17_1.1.f1, .int .i64 x17_1.1.f2, .slice p17_1.1.1 x17_1.1.f3.length p17_1.1.2, .bool x17_1.1.f4], 24⟩]) (by kernel_rfl) ?_
                                    refine O.nil (by kernel_rfl) ?_
                                    refine J.cond (o := .tmp 112) false (by kernel_rfl) (by kernel_rfl) ?_
                                    refine J.skip (by kernel_rfl) ?_
                                    refine J.out ?_
                                    refine J.region (by kernel_rfl) ?_
                                    refine O.pure 3 [] [1, 5, 9, 10, 12, 13, 73, 74, 105, 106, 107, 108, 109, 110, 111] [] (fr' := [(1, .int .i64 a1), (5, .pointer (some ⟨p3_8, 0, none⟩)), (9, .int .i64 o501), (10, .int .i64 s264.2.1), (12, .slice p17_1.2.1 x17_1.2.length p17_1.2.2), (13, .int .i64 (IntKind.wrap .i64 (s487.2 + 1))), (73, .int .i64 s264.1), (74, .bool (s264.1 == 0)), (105, undef), (106, undef), (107, undef), (108, undef), (109, undef), (110, undef), (111, undef)]) (bx' := [⟨p3_8, [.int .i64 x17_1.1.f0, .int .i64 x17_1.1.f1, .int .i64 x17_1.1.f2, .slice p17_1.1.1 x17_1.1.f3.length p17_1.1.2, .bool x17_1.1.f4], 24⟩]) (by kernel_rfl) ?_
                                    refine O.nil (by kernel_rfl) ?_
                                    exact J.conv2 [1, 5, 9, 10, 12, 13, 73, 74] [0, 1, 2] [0] [] (by kernel_rfl) (by kernel_rfl) (by kernel_rfl) (by kernel_rfl) (by decide) (ih487 (o501, (IntKind.wrap .i64 (s487.2 + 1))) () H)
                                · rcases condE H with ⟨hc505, H⟩ | ⟨hc505, H⟩
                                  · refine J.condT (x := .tmp 95) (t := (decide (x22_2.f0 > 0))) (by kernel_rfl) (by kernel_rfl) hc505 ?_
                                    refine J.region (by kernel_rfl) ?_
                                    refine O.pure 3 [] [1, 5, 9, 10, 12, 13, 73, 74] [] (fr' := [(1, .int .i64 a1), (5, .pointer (some ⟨p3_8, 0, none⟩)), (9, .int .i64 (IntKind.wrap .i64 (s487.1 + 1))), (10, .int .i64 s264.2.1), (12, .slice p17_1.2.1 x17_1.2.length p17_1.2.2), (13, .int .i64 s487.2), (73, .int .i64 s264.1), (74, .bool (s264.1 == 0))]) (bx' := [⟨p3_8, [.int .i64 x17_1.1.f0, .int .i64 x17_1.1.f1, .int .i64 x17_1.1.f2, .slice p17_1.1.1 x17_1.1.f3.length p17_1.1.2, .bool x17_1.1.f4], 24⟩]) (by kernel_rfl) ?_
                                    refine O.nil (by kernel_rfl) ?_
                                    obtain rfl := Option.some.inj H
                                    exact J.conv2 [1, 5, 9, 10, 12, 13, 73, 74] [0, 1, 2] [0] [] (by kernel_rfl) (by kernel_rfl) (by kernel_rfl) (by kernel_rfl) (by decide) (hj501 ())
                                  · refine J.condF (x := .tmp 95) (t := (decide (x22_2.f0 > 0))) (by kernel_rfl) (by kernel_rfl) hc505 ?_
                                    refine J.skip (by kernel_rfl) ?_
                                    obtain rfl := Option.some.inj H
                                    exact J.conv2 [1, 5, 9, 10, 12, 13, 73, 74] [0, 1, 2] [0] [] (by kernel_rfl) (by kernel_rfl) (by kernel_rfl) (by kernel_rfl) (by decide) (hj501 ())
                              · refine J.condF (x := .tmp 87) (t := (decide (s487.2 < (x17_1.2.length : Int)))) (by kernel_rfl) (by kernel_rfl) hc500 ?_
                                refine J.exit (id := 4) (by kernel_rfl) rfl ?_
                                obtain rfl := Option.some.inj H
                                exact J.conv2 [1, 5, 9, 10, 73, 74] [0, 1] [0] [] (by kernel_rfl) (by kernel_rfl) (by kernel_rfl) (by kernel_rfl) (by decide) (hj467.1 _ rfl ())
                            · refine J.mono (fun w hS => hS.freezeH) ?_
                              exact J.conv2 [1, 5, 9, 10, 12, 13, 73, 74] [1, 3, 0] [1] [] (by kernel_rfl) (by kernel_rfl) (by kernel_rfl) (by kernel_rfl) (by decide) h_
                      · refine J.condF (x := .tmp 75) (t := (s264.1 == 0)) (by kernel_rfl) (by kernel_rfl) hc426 ?_
                        refine J.exit (id := 2) (by kernel_rfl) rfl ?_
                        obtain rfl := Option.some.inj H
                        exact J.conv2 [5, 9] [0, 1] [0] [] (by kernel_rfl) (by kernel_rfl) (by kernel_rfl) (by kernel_rfl) (by decide) (hj17.1 _ rfl g264)
                    · refine J.region (by kernel_rfl) ?_
                      refine O.pure 1 [] [1, 5, 9, 10, 70] [] (fr' := [(1, .int .i64 a1), (5, .pointer (some ⟨p3_8, 0, none⟩)), (9, .int .i64 s264.1), (10, .int .i64 s264.2.1), (70, .int .i64 s264.2.1)]) (bx' := [⟨p3_8, [.int .i64 s264.2.2.1, .int .i64 s264.2.2.2.1, .int .i64 s264.2.2.2.2.1, .slice g264.1 s264.2.2.2.2.2.1.length g264.2, .bool s264.2.2.2.2.2.2], 24⟩]) (by kernel_rfl) ?_
                      refine O.q (v := .bool false) (some 71) (Qu.eqv (u := .bool (decide (s264.2.1 < 4))) (v := .bool false) (0, 0) [] (by kernel_rfl) (congrArg Value.bool hc425)) (by kernel_rfl) ?_
                      refine O.pure 4 [] [1, 5, 9, 10, 73, 74, 75] [] (fr' := [(1, .int .i64 a1), (5, .pointer (some ⟨p3_8, 0, none⟩)), (9, .int .i64 s264.1), (10, .int .i64 s264.2.1), (73, undef), (74, undef), (75, .bool false)]) (bx' := [⟨p3_8, [.int .i64 s264.2.2.1, .int .i64 s264.2.2.2.1, .int .i64 s264.2.2.2.2.1, .slice g264.1 s264.2.2.2.2.2.1.length g264.2, .bool s264.2.2.2.2.2.2], 24⟩]) (by kernel_rfl) ?_
                      refine O.nil (by kernel_rfl) ?_
                      refine J.cond (o := .tmp 75) false (by kernel_rfl) (by kernel_rfl) ?_
                      refine J.exit (id := 2) (by kernel_rfl) rfl ?_
                      obtain rfl := Option.some.inj H
                      exact J.conv2 [5, 9] [0, 1] [0] [] (by kernel_rfl) (by kernel_rfl) (by kernel_rfl) (by kernel_rfl) (by decide) (hj17.1 _ rfl g264)
                  · exact J.conv2 [1, 5, 9, 10] [0, 1] [0] [] (by kernel_rfl) (by kernel_rfl) (by kernel_rfl) (by kernel_rfl) (by decide) h_
              · refine J.block (id := 0) (by kernel_rfl) ?_
                refine J.loopI (σ := Int) (γ := Unit) (f := fun m_ s_ => haywainlaw16_LinkAcked.l506 K a1 x3_3 m_ s_) (fun s506 g506 => [(1, .int .i64 a1), (5, .pointer (some ⟨p3_8, 0, none⟩)), (8, .int .i64 s506)]) (fun s506 g506 => St X w [] [⟨p3_8, [.int .i64 x3_3.1.f0, .int .i64 x3_3.1.f1, .int .i64 x3_3.1.f2, .slice p3_3.1 x3_3.1.f3.length p3_3.2, .bool x3_3.1.f4], 24⟩] [] [] [Rd kd71 p3_3.1 p3_3.2 x3_3.1.f3, Rd kd71 h0.1 h0.2 a0.f3]) K 0 () (by kernel_rfl) H (fun _ => rfl) (fun m_ s506 H ih506 g506 => ?_) (fun h_ => ?_)
                · unfold haywainlaw16_LinkAcked.l506 at H
                  refine J.seq (by kernel_rfl) ?_
                  refine J.seq (by kernel_rfl) ?_
                  refine J.region (by kernel_rfl) ?_
                  refine O.pure 5 [(0, 3)] [1, 5, 8, 59] [p3_8, 3] (fr' := [(1, .int .i64 a1), (5, .pointer (some ⟨p3_8, 0, none⟩)), (8, .int .i64 s506), (59, .bool (decide (s506 < (x3_3.1.f3.length : Int))))]) (bx' := [⟨p3_8, [.int .i64 x3_3.1.f0, .int .i64 x3_3.1.f1, .int .i64 x3_3.1.f2, .slice p3_3.1 x3_3.1.f3.length p3_3.2, .bool x3_3.1.f4], 24⟩]) (by kernel_rfl) ?_
                  refine O.nil (by kernel_rfl) ?_
                  rcases condE H with ⟨hc511, H⟩ | ⟨hc511, H⟩
                  · refine J.condT (x := .tmp 59) (t := (decide (s506 < (x3_3.1.f3.length : Int)))) (by kernel_rfl) (by kernel_rfl) hc511 ?_
                    refine J.skip (by kernel_rfl) ?_
                    refine J.seq (by kernel_rfl) ?_
                    refine J.block (id := 1) (by kernel_rfl) ?_
                    refine J.seq (by kernel_rfl) ?_
                    obtain ⟨x11_3, hx11_3, H⟩ := bindE H
                    obtain ⟨hx11_3a, hx11_3⟩ := idxE hx11_3
                    refine J.region (by kernel_rfl) ?_
                    refine O.pure 3 [(0, 3)] [1, 5, 8, 63, 64] [p3_8, 3] (fr' := [(1, .int .i64 a1), (5, .pointer (some ⟨p3_8, 0, none⟩)), (8, .int .i64 s506), (63, .slice p3_3.1 x3_3.1.f3.length p3_3.2), (64, .int .i64 s506)]) (bx' := [⟨p3_8, [.int .i64 x3_3.1.f0, .int .i64 x3_3.1.f1, .int .i64 x3_3.1.f2, .slice p3_3.1 x3_3.1.f3.length p3_3.2, .bool x3_3.1.f4], 24⟩]) (by kernel_rfl) ?_
                    refine O.open (d := kd71) (h := p3_3) (i := s506) 0 rfl hx11_3 (op71 _) (fun p11_3 hp11_3A => ?_)
                    refine O.q (v := .pointer (some ⟨p11_3.1, p11_3.2.1 + s506.toNat * 2, none⟩)) (some 65) (Qu.idx (t := 22) (x := .tmp 63) (y := .tmp 64) (c := p3_3.2) (kk := .i64) (sz := 2) (by kernel_rfl) (by kernel_rfl) (by kernel_rfl) (by kernel_rfl) hx11_3a (idx_lt hx11_3) hp11_3A) (by kernel_rfl) ?_
                    refine O.pure 4 [(1, 0)] [1, 5, 8, 69] [p11_3.1, p11_3.2.1 + s506.toNat * 2] (fr' := [(1, .int .i64 a1), (5, .pointer (some ⟨p3_8, 0, none⟩)), (8, .int .i64 s506), (69, .bool (decide (x11_3.f0 ≤ a1)))]) (bx' := [⟨p3_8, [.int .i64 x3_3.1.f0, .int .i64 x3_3.1.f1, .int .i64 x3_3.1.f2, .slice p3_3.1 x3_3.1.f3.length p3_3.2, .bool x3_3.1.f4], 24⟩]) (by kernel_rfl) ?_
                    refine O.nil (by kernel_rfl) ?_
                    rcases condE H with ⟨hc512, H⟩ | ⟨hc512, H⟩
                    · refine J.condT (x := .tmp 69) (t := (decide (x11_3.f0 ≤ a1))) (by kernel_rfl) (by kernel_rfl) hc512 ?_
                      refine J.seq (by kernel_rfl) ?_
                      refine J.region (by kernel_rfl) ?_
                      refine O.pure 1 [] [4] [] (fr' := [(4, .bool false)]) (bx' := [⟨p3_8, [.int .i64 x3_3.1.f0, .int .i64 x3_3.1.f1, .int .i64 x3_3.1.f2, .slice p3_3.1 x3_3.1.f3.length p3_3.2, .bool x3_3.1.f4], 24⟩]) (by kernel_rfl) ?_
                      refine O.nil (by kernel_rfl) ?_
                      obtain rfl := Option.some.inj H
                      obtain rfl := hj9.2 _ rfl
                      exact J.doneS [] [] [] [] [] () (vs := [.bool false]) (by kernel_rfl) (by kernel_rfl) (by kernel_rfl) (by kernel_rfl) (by kernel_rfl) (by decide)
                    · refine J.condF (x := .tmp 69) (t := (decide (x11_3.f0 ≤ a1))) (by kernel_rfl) (by kernel_rfl) hc512 ?_
                      refine J.skip (by kernel_rfl) ?_
                      refine J.out ?_
                      refine J.region (by kernel_rfl) ?_
                      refine O.pure 3 [] [1, 5, 8] [] (fr' := [(1, .int .i64 a1), (5, .pointer (some ⟨p3_8, 0, none⟩)), (8, .int .i64 (IntKind.wrap .i64 (s506 + 1)))]) (bx' := [⟨p3_8, [.int .i64 x3_3.1.f0, .int .i64 x3_3.1.f1, .int .i64 x3_3.1.f2, .slice p3_3.1 x3_3.1.f3.length p3_3.2, .bool x3_3.1.f4], 24⟩]) (by kernel_rfl) ?_
                      refine O.nil (by kernel_rfl) ?_
                      exact J.conv2 [1, 5, 8] [0, 1] [0] [] (by kernel_rfl) (by kernel_rfl) (by kernel_rfl) (by kernel_rfl) (by decide) (ih506 (IntKind.wrap .i64 (s506 + 1)) () H)
                  · refine J.condF (x := .tmp 59) (t := (decide (s506 < (x3_3.1.f3.length : Int)))) (by kernel_rfl) (by kernel_rfl) hc511 ?_
                    refine J.exit (id := 0) (by kernel_rfl) rfl ?_
                    obtain rfl := Option.some.inj H
                    exact J.conv2 [1, 5] [0, 1] [0] [] (by kernel_rfl) (by kernel_rfl) (by kernel_rfl) (by kernel_rfl) (by decide) (hj9.1 _ rfl ())
                · exact J.conv2 [1, 5, 8] [0, 2] [0] [] (by kernel_rfl) (by kernel_rfl) (by kernel_rfl) (by kernel_rfl) (by decide) h_
def haywainlaw16_LinkAcked.Pure : Prop := ∀ (a0 : S24) (a1 : Int), (wf24 a0) → ((Lit.int .i64 a1).wf = true) → ∃ K, haywainlaw16_LinkAcked.f K a0 a1 = some true
end Go.Proofs.Ytndccmilcffedaa.G
