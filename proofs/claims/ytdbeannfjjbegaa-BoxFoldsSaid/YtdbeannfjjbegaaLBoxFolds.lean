/- The law BoxFolds as plain Lean, with its contract; printed by a program of this session. -/
import Derived.Test.YtdbeannfjjbegaaG1
set_option linter.unusedVariables false
set_option linter.unusedSimpArgs false
namespace Go.Proofs.Ytdbeannfjjbegaa.G
open Go Go.RowKit Go.Hw
/-! ### haywain/haywainlaw05.BoxFolds: function 5 -/
def haywainlaw05_BoxFolds.f (K : Nat) (a0 : Int) (a1 : List S40) : Option Bool := (haywainlaw05_great.f K a1).bind fun x1_1 => cond x1_1 ((haywainlaw05_knows.f K).bind fun x2_0 => some (x2_0)) ((haywainlaw05_own.f K a1).bind fun x3_2 => (box_Fold.f K a0 x3_2).bind fun x3_3 => (haywainref05_Fold.f K a0 a1).bind fun x4_2 => (haywainref04_SameMsgs.f K x3_3.1 x4_2.1).bind fun x5_2 => cond x5_2 (cond (x3_3.2 == x4_2.2) ((haywainlaw05_knows.f K).bind fun x5_9 => some (x5_9)) (some (false))) (some (false)))
set_option maxRecDepth 100000 in
set_option maxHeartbeats 1000000 in
theorem haywainlaw05_BoxFolds.con (K : Nat) (a0 : Int) (a1 : List S40) (h0 : Hd) (r : Bool) (X : Nat → Nat → Prop) (w : World) (hS : St X w [] [] [] [] [Rd kd40 h0.1 h0.2 a1] w) (H : haywainlaw05_BoxFolds.f K a0 a1 = some r) :
    Cn Try.prog 5 [.int .i64 a0, .slice h0.1 a1.length h0.2] X w [] (fun i : Unit => .bool r) (fun i => []) (fun i => []) (fun i => []) := by
  refine Cn.of Try.func5 (by kernel_rfl) hS ?_
  unfold haywainlaw05_BoxFolds.f at H
  refine J.seq (by kernel_rfl) ?_
  refine J.region (by kernel_rfl) ?_
  refine O.pure 1 [] [0, 1] [] (fr' := [(0, .int .i64 a0), (1, .slice h0.1 a1.length h0.2)]) (bx' := []) (by kernel_rfl) ?_
  refine O.nil (by kernel_rfl) ?_
  refine J.seq (by kernel_rfl) ?_
  refine J.seq (by kernel_rfl) ?_
  obtain ⟨x1_1, hx1_1, H⟩ := bindE H
  refine J.region (by kernel_rfl) ?_
  refine O.pure 1 [] [0, 1, 9] [] (fr' := [(0, .int .i64 a0), (1, .slice h0.1 a1.length h0.2), (9, .slice h0.1 a1.length h0.2)]) (bx' := []) (by kernel_rfl) ?_
  refine O.e (some 10) (Ev.call0 (xs := [.tmp 9]) [0] (by kernel_rfl) (by kernel_rfl) (fun w hS => haywainlaw05_great.con K a1 h0  _ _ w hS hx1_1)) (by kernel_rfl) (fun _ => ?_)
  refine O.nil (by kernel_rfl) ?_
  rcases condE H with ⟨hc1, H⟩ | ⟨hc1, H⟩
  · refine J.condT (x := .tmp 10) (t := x1_1) (by kernel_rfl) (by kernel_rfl) hc1 ?_
    refine J.seq (by kernel_rfl) ?_
    obtain ⟨x2_0, hx2_0, H⟩ := bindE H
    refine J.region (by kernel_rfl) ?_
    refine O.e (some 11) (Ev.call0 (xs := []) [] (by kernel_rfl) (by kernel_rfl) (fun w hS => haywainlaw05_knows.con K  _ _ w hS hx2_0)) (by kernel_rfl) (fun _ => ?_)
    refine O.pure 1 [] [4] [] (fr' := [(4, .bool x2_0)]) (bx' := []) (by kernel_rfl) ?_
    refine O.nil (by kernel_rfl) ?_
    obtain rfl := Option.some.inj H
    exact J.doneS [] [] [] [] [] () (vs := [.bool x2_0]) (by kernel_rfl) (by kernel_rfl) (by kernel_rfl) (by kernel_rfl) (by kernel_rfl) (by decide)
  · refine J.condF (x := .tmp 10) (t := x1_1) (by kernel_rfl) (by kernel_rfl) hc1 ?_
    refine J.skip (by kernel_rfl) ?_
    refine J.seq (by kernel_rfl) ?_
    obtain ⟨x3_2, hx3_2, H⟩ := bindE H
    obtain ⟨x3_3, hx3_3, H⟩ := bindE H
    refine J.region (by kernel_rfl) ?_
    refine O.pure 2 [] [0, 1, 13, 14] [] (fr' := [(0, .int .i64 a0), (1, .slice h0.1 a1.length h0.2), (13, .int .i64 a0), (14, .slice h0.1 a1.length h0.2)]) (bx' := []) (by kernel_rfl) ?_
    refine O.e (some 15) (Ev.call0 (xs := [.tmp 14]) [0] (by kernel_rfl) (by kernel_rfl) (fun w hS => haywainlaw05_own.con K a1 h0  _ _ w hS hx3_2)) (by kernel_rfl) (fun p3_2 => ?_)
    refine O.e (some 16) (Ev.callL (hh := p3_2) (xs := x3_2) (m := x3_2.length) (xs1 := [.tmp 13, .tmp 15]) [0] rfl (by kernel_rfl) (by kernel_rfl) (fun _ q hq _ _ _ h => by obtain rfl := List.mem_singleton.1 hq; exact h) (fun w hS => box_Fold.con K a0 x3_2 p3_2  _ _ w hS hx3_3)) (by kernel_rfl) (fun p3_3 => ?_)
    refine O.pure 5 [] [0, 1, 5, 6] [] (fr' := [(0, .int .i64 a0), (1, .slice h0.1 a1.length h0.2), (5, .slice p3_3.1 x3_3.1.length p3_3.2), (6, .int .i64 x3_3.2)]) (bx' := []) (by kernel_rfl) ?_
    refine O.nil (by kernel_rfl) ?_
    refine J.seq (by kernel_rfl) ?_
    obtain ⟨x4_2, hx4_2, H⟩ := bindE H
    refine J.region (by kernel_rfl) ?_
    refine O.pure 2 [] [5, 6, 20, 21] [] (fr' := [(5, .slice p3_3.1 x3_3.1.length p3_3.2), (6, .int .i64 x3_3.2), (20, .int .i64 a0), (21, .slice h0.1 a1.length h0.2)]) (bx' := []) (by kernel_rfl) ?_
    refine O.e (some 22) (Ev.call0 (xs := [.tmp 20, .tmp 21]) [0] (by kernel_rfl) (by kernel_rfl) (fun w hS => haywainref05_Fold.con K a0 a1 h0  _ _ w hS hx4_2)) (by kernel_rfl) (fun p4_2 => ?_)
    refine O.pure 5 [] [5, 6, 7, 8] [] (fr' := [(5, .slice p3_3.1 x3_3.1.length p3_3.2), (6, .int .i64 x3_3.2), (7, .slice p4_2.1 x4_2.1.length p4_2.2), (8, .int .i64 x4_2.2)]) (bx' := []) (by kernel_rfl) ?_
    refine O.nil (by kernel_rfl) ?_
    refine J.seq (by kernel_rfl) ?_
    obtain ⟨x5_2, hx5_2, H⟩ := bindE H
    rcases condE H with ⟨hc2, H⟩ | ⟨hc2, H⟩
    · rcases condE H with ⟨hc3, H⟩ | ⟨hc3, H⟩
      · obtain ⟨x5_9, hx5_9, H⟩ := bindE H
        refine J.region (by kernel_rfl) ?_
        refine O.pure 2 [] [6, 8, 25, 26] [] (fr' := [(6, .int .i64 x3_3.2), (8, .int .i64 x4_2.2), (25, .slice p3_3.1 x3_3.1.length p3_3.2), (26, .slice p4_2.1 x4_2.1.length p4_2.2)]) (bx' := []) (by kernel_rfl) ?_
        refine O.e (some 27) (Ev.mono (fun w hS => hS.rowsel [1, 0, 2] rfl (by decide)) (Ev.mono (fun w hS => hS.freezeH (h := p3_3) (xs := x3_3.1)) (Ev.mono (fun w hS => hS.freezeH (h := p4_2) (xs := x4_2.1)) (Ev.call0 (xs := [.tmp 25, .tmp 26]) [1, 0] (by kernel_rfl) (by kernel_rfl) (fun w hS => haywainref04_SameMsgs.con K x3_3.1 x4_2.1 p3_3 p4_2  _ _ w hS hx5_2))))) (by kernel_rfl) (fun _ => ?_)
        refine O.q (v := .bool true) (some 28) (Qu.eqv (u := .bool x5_2) (v := .bool true) (0, 0) [] (by kernel_rfl) (congrArg Value.bool hc2)) (by kernel_rfl) ?_
        refine O.pure 2 [] [28, 29, 30] [] (fr' := [(28, .bool true), (29, .int .i64 x3_3.2), (30, .int .i64 x4_2.2)]) (bx' := []) (by kernel_rfl) ?_
        refine O.q (v := .bool true) (some 31) (Qu.eqv (u := .bool (x3_3.2 == x4_2.2)) (v := .bool true) (0, 0) [] (by kernel_rfl) (congrArg Value.bool hc3)) (by kernel_rfl) ?_
        refine O.pure 2 [] [33] [] (fr' := [(33, .bool true)]) (bx' := []) (by kernel_rfl) ?_
        refine O.e (some 34) (Ev.call0 (xs := []) [] (by kernel_rfl) (by kernel_rfl) (fun w hS => haywainlaw05_knows.con K  _ _ w hS hx5_9)) (by kernel_rfl) (fun _ => ?_)
        refine O.pure 2 [] [4] [] (fr' := [(4, .bool x5_9)]) (bx' := []) (by kernel_rfl) ?_
        refine O.nil (by kernel_rfl) ?_
        obtain rfl := Option.some.inj H
        exact J.doneS [] [] [] [] [] () (vs := [.bool x5_9]) (by kernel_rfl) (by kernel_rfl) (by kernel_rfl) (by kernel_rfl) (by kernel_rfl) (by decide)
      · refine J.region (by kernel_rfl) ?_
        refine O.pure 2 [] [6, 8, 25, 26] [] (fr' := [(6, .int .i64 x3_3.2), (8, .int .i64 x4_2.2), (25, .slice p3_3.1 x3_3.1.length p3_3.2), (26, .slice p4_2.1 x4_2.1.length p4_2.2)]) (bx' := []) (by kernel_rfl) ?_
        refine O.e (some 27) (Ev.mono (fun w hS => hS.rowsel [1, 0, 2] rfl (by decide)) (Ev.mono (fun w hS => hS.freezeH (h := p3_3) (xs := x3_3.1)) (Ev.mono (fun w hS => hS.freezeH (h := p4_2) (xs := x4_2.1)) (Ev.call0 (xs := [.tmp 25, .tmp 26]) [1, 0] (by kernel_rfl) (by kernel_rfl) (fun w hS => haywainref04_SameMsgs.con K x3_3.1 x4_2.1 p3_3 p4_2  _ _ w hS hx5_2))))) (by kernel_rfl) (fun _ => ?_)
        refine O.q (v := .bool true) (some 28) (Qu.eqv (u := .bool x5_2) (v := .bool true) (0, 0) [] (by kernel_rfl) (congrArg Value.bool hc2)) (by kernel_rfl) ?_
        refine O.pure 2 [] [28, 29, 30] [] (fr' := [(28, .bool true), (29, .int .i64 x3_3.2), (30, .int .i64 x4_2.2)]) (bx' := []) (by kernel_rfl) ?_
        refine O.q (v := .bool false) (some 31) (Qu.eqv (u := .bool (x3_3.2 == x4_2.2)) (v := .bool false) (0, 0) [] (by kernel_rfl) (congrArg Value.bool hc3)) (by kernel_rfl) ?_
        refine O.pure 5 [] [4] [] (fr' := [(4, .bool false)]) (bx' := []) (by kernel_rfl) ?_
        refine O.nil (by kernel_rfl) ?_
        obtain rfl := Option.some.inj H
        exact J.doneS [] [] [] [] [] () (vs := [.bool false]) (by kernel_rfl) (by kernel_rfl) (by kernel_rfl) (by kernel_rfl) (by kernel_rfl) (by decide)
    · refine J.region (by kernel_rfl) ?_
      refine O.pure 2 [] [6, 8, 25, 26] [] (fr' := [(6, .int .i64 x3_3.2), (8, .int .i64 x4_2.2), (25, .slice p3_3.1 x3_3.1.length p3_3.2), (26, .slice p4_2.1 x4_2.1.length p4_2.2)]) (bx' := []) (by kernel_rfl) ?_
      refine O.e (some 27) (Ev.mono (fun w hS => hS.rowsel [1, 0, 2] rfl (by decide)) (Ev.mono (fun w hS => hS.freezeH (h := p3_3) (xs := x3_3.1)) (Ev.mono (fun w hS => hS.freezeH (h := p4_2) (xs := x4_2.1)) (Ev.call0 (xs := [.tmp 25, .tmp 26]) [1, 0] (by kernel_rfl) (by kernel_rfl) (fun w hS => haywainref04_SameMsgs.con K x3_3.1 x4_2.1 p3_3 p4_2  _ _ w hS hx5_2))))) (by kernel_rfl) (fun _ => ?_)
      refine O.q (v := .bool false) (some 28) (Qu.eqv (u := .bool x5_2) (v := .bool false) (0, 0) [] (by kernel_rfl) (congrArg Value.bool hc2)) (by kernel_rfl) ?_
      refine O.pure 8 [] [4] [] (fr' := [(4, .bool false)]) (bx' := []) (by kernel_rfl) ?_
      refine O.nil (by kernel_rfl) ?_
      obtain rfl := Option.some.inj H
      exact J.doneS [] [] [] [] [] () (vs := [.bool false]) (by kernel_rfl) (by kernel_rfl) (by kernel_rfl) (by kernel_rfl) (by kernel_rfl) (by decide)
def haywainlaw05_BoxFolds.Pure : Prop := ∀ (a0 : Int) (a1 : List S40), ((Lit.int .i64 a0).wf = true) → (a1.length * 16 ≤ 140737488351232 ∧ ∀ x_ ∈ a1, wf40 x_) → ∃ K, haywainlaw05_BoxFolds.f K a0 a1 = some true
end Go.Proofs.Ytdbeannfjjbegaa.G
