/- The law BoxSorts as plain Lean, with its contract; printed by a program of this session. -/
import Derived.Test.YtdbeannfjjbegaaG1
set_option linter.unusedVariables false
set_option linter.unusedSimpArgs false
namespace Go.Proofs.Ytdbeannfjjbegaa.G
open Go Go.RowKit Go.Hw
/-! ### haywain/haywainlaw05.BoxSorts: function 3 -/
def haywainlaw05_BoxSorts.f (K : Nat) (a0 : List S40) : Option Bool := (haywainlaw05_great.f K a0).bind fun x1_1 => cond x1_1 ((haywainlaw05_knows.f K).bind fun x2_0 => some (x2_0)) ((haywainlaw05_own.f K a0).bind fun x3_1 => (box_Sort.f K x3_1).bind fun x3_2 => (haywainref05_Sort.f K a0).bind fun x3_4 => (haywainref04_SameMsgs.f K x3_2 x3_4).bind fun x3_5 => cond x3_5 ((haywainlaw05_knows.f K).bind fun x3_7 => some (x3_7)) (some (false)))
set_option maxRecDepth 100000 in
set_option maxHeartbeats 1000000 in
theorem haywainlaw05_BoxSorts.con (K : Nat) (a0 : List S40) (h0 : Hd) (r : Bool) (X : Nat → Nat → Prop) (w : World) (hS : St X w [] [] [] [] [Rd kd40 h0.1 h0.2 a0] w) (H : haywainlaw05_BoxSorts.f K a0 = some r) :
    Cn Try.prog 3 [.slice h0.1 a0.length h0.2] X w [] (fun i : Unit => .bool r) (fun i => []) (fun i => []) (fun i => []) := by
  refine Cn.of Try.func3 (by kernel_rfl) hS ?_
  unfold haywainlaw05_BoxSorts.f at H
  refine J.seq (by kernel_rfl) ?_
  refine J.region (by kernel_rfl) ?_
  refine O.pure 1 [] [0] [] (fr' := [(0, .slice h0.1 a0.length h0.2)]) (bx' := []) (by kernel_rfl) ?_
  refine O.nil (by kernel_rfl) ?_
  refine J.seq (by kernel_rfl) ?_
  refine J.seq (by kernel_rfl) ?_
  obtain ⟨x1_1, hx1_1, H⟩ := bindE H
  refine J.region (by kernel_rfl) ?_
  refine O.pure 1 [] [0, 3] [] (fr' := [(0, .slice h0.1 a0.length h0.2), (3, .slice h0.1 a0.length h0.2)]) (bx' := []) (by kernel_rfl) ?_
  refine O.e (some 4) (Ev.call0 (xs := [.tmp 3]) [0] (by kernel_rfl) (by kernel_rfl) (fun w hS => haywainlaw05_great.con K a0 h0  _ _ w hS hx1_1)) (by kernel_rfl) (fun _ => ?_)
  refine O.nil (by kernel_rfl) ?_
  rcases condE H with ⟨hc1, H⟩ | ⟨hc1, H⟩
  · refine J.condT (x := .tmp 4) (t := x1_1) (by kernel_rfl) (by kernel_rfl) hc1 ?_
    refine J.seq (by kernel_rfl) ?_
    obtain ⟨x2_0, hx2_0, H⟩ := bindE H
    refine J.region (by kernel_rfl) ?_
    refine O.e (some 5) (Ev.call0 (xs := []) [] (by kernel_rfl) (by kernel_rfl) (fun w hS => haywainlaw05_knows.con K  _ _ w hS hx2_0)) (by kernel_rfl) (fun _ => ?_)
    refine O.pure 1 [] [2] [] (fr' := [(2, .bool x2_0)]) (bx' := []) (by kernel_rfl) ?_
    refine O.nil (by kernel_rfl) ?_
    obtain rfl := Option.some.inj H
    exact J.doneS [] [] [] [] [] () (vs := [.bool x2_0]) (by kernel_rfl) (by kernel_rfl) (by kernel_rfl) (by kernel_rfl) (by kernel_rfl) (by decide)
  · refine J.condF (x := .tmp 4) (t := x1_1) (by kernel_rfl) (by kernel_rfl) hc1 ?_
    refine J.skip (by kernel_rfl) ?_
    refine J.seq (by kernel_rfl) ?_
    obtain ⟨x3_1, hx3_1, H⟩ := bindE H
    obtain ⟨x3_2, hx3_2, H⟩ := bindE H
    obtain ⟨x3_4, hx3_4, H⟩ := bindE H
    obtain ⟨x3_5, hx3_5, H⟩ := bindE H
    rcases condE H with ⟨hc2, H⟩ | ⟨hc2, H⟩
    · obtain ⟨x3_7, hx3_7, H⟩ := bindE H
      refine J.region (by kernel_rfl) ?_
      refine O.pure 1 [] [0, 6] [] (fr' := [(0, .slice h0.1 a0.length h0.2), (6, .slice h0.1 a0.length h0.2)]) (bx' := []) (by kernel_rfl) ?_
      refine O.e (some 7) (Ev.call0 (xs := [.tmp 6]) [0] (by kernel_rfl) (by kernel_rfl) (fun w hS => haywainlaw05_own.con K a0 h0  _ _ w hS hx3_1)) (by kernel_rfl) (fun p3_1 => ?_)
      refine O.e (some 8) (Ev.callL (hh := p3_1) (xs := x3_1) (m := x3_1.length) (xs1 := [.tmp 7]) [0] rfl (by kernel_rfl) (by kernel_rfl) (fun _ q hq _ _ _ h => by obtain rfl := List.mem_singleton.1 hq; exact h) (fun w hS => box_Sort.con K x3_1 p3_1  _ _ w hS hx3_2)) (by kernel_rfl) (fun p3_2 => ?_)
      refine O.pure 1 [] [8, 9] [] (fr' := [(8, .slice p3_2.1 x3_2.length p3_2.2), (9, .slice h0.1 a0.length h0.2)]) (bx' := []) (by kernel_rfl) ?_
      refine O.e (some 10) (Ev.call0 (xs := [.tmp 9]) [0] (by kernel_rfl) (by kernel_rfl) (fun w hS => haywainref05_Sort.con K a0 h0  _ _ w hS hx3_4)) (by kernel_rfl) (fun p3_4 => ?_)
      refine O.e (some 11) (Ev.mono (fun w hS => hS.rowsel [1, 0, 2] rfl (by decide)) (Ev.mono (fun w hS => hS.freezeH (h := p3_2) (xs := x3_2)) (Ev.mono (fun w hS => hS.freezeH (h := p3_4) (xs := x3_4)) (Ev.call0 (xs := [.tmp 8, .tmp 10]) [1, 0] (by kernel_rfl) (by kernel_rfl) (fun w hS => haywainref04_SameMsgs.con K x3_2 x3_4 p3_2 p3_4  _ _ w hS hx3_5))))) (by kernel_rfl) (fun _ => ?_)
      refine O.q (v := .bool true) (some 12) (Qu.eqv (u := .bool x3_5) (v := .bool true) (0, 0) [] (by kernel_rfl) (congrArg Value.bool hc2)) (by kernel_rfl) ?_
      refine O.e (some 13) (Ev.call0 (xs := []) [] (by kernel_rfl) (by kernel_rfl) (fun w hS => haywainlaw05_knows.con K  _ _ w hS hx3_7)) (by kernel_rfl) (fun _ => ?_)
      refine O.pure 2 [] [2] [] (fr' := [(2, .bool x3_7)]) (bx' := []) (by kernel_rfl) ?_
      refine O.nil (by kernel_rfl) ?_
      obtain rfl := Option.some.inj H
      exact J.doneS [] [] [] [] [] () (vs := [.bool x3_7]) (by kernel_rfl) (by kernel_rfl) (by kernel_rfl) (by kernel_rfl) (by kernel_rfl) (by decide)
    · refine J.region (by kernel_rfl) ?_
      refine O.pure 1 [] [0, 6] [] (fr' := [(0, .slice h0.1 a0.length h0.2), (6, .slice h0.1 a0.length h0.2)]) (bx' := []) (by kernel_rfl) ?_
      refine O.e (some 7) (Ev.call0 (xs := [.tmp 6]) [0] (by kernel_rfl) (by kernel_rfl) (fun w hS => haywainlaw05_own.con K a0 h0  _ _ w hS hx3_1)) (by kernel_rfl) (fun p3_1 => ?_)
      refine O.e (some 8) (Ev.callL (hh := p3_1) (xs := x3_1) (m := x3_1.length) (xs1 := [.tmp 7]) [0] rfl (by kernel_rfl) (by kernel_rfl) (fun _ q hq _ _ _ h => by obtain rfl := List.mem_singleton.1 hq; exact h) (fun w hS => box_Sort.con K x3_1 p3_1  _ _ w hS hx3_2)) (by kernel_rfl) (fun p3_2 => ?_)
      refine O.pure 1 [] [8, 9] [] (fr' := [(8, .slice p3_2.1 x3_2.length p3_2.2), (9, .slice h0.1 a0.length h0.2)]) (bx' := []) (by kernel_rfl) ?_
      refine O.e (some 10) (Ev.call0 (xs := [.tmp 9]) [0] (by kernel_rfl) (by kernel_rfl) (fun w hS => haywainref05_Sort.con K a0 h0  _ _ w hS hx3_4)) (by kernel_rfl) (fun p3_4 => ?_)
      refine O.e (some 11) (Ev.mono (fun w hS => hS.rowsel [1, 0, 2] rfl (by decide)) (Ev.mono (fun w hS => hS.freezeH (h := p3_2) (xs := x3_2)) (Ev.mono (fun w hS => hS.freezeH (h := p3_4) (xs := x3_4)) (Ev.call0 (xs := [.tmp 8, .tmp 10]) [1, 0] (by kernel_rfl) (by kernel_rfl) (fun w hS => haywainref04_SameMsgs.con K x3_2 x3_4 p3_2 p3_4  _ _ w hS hx3_5))))) (by kernel_rfl) (fun _ => ?_)
      refine O.q (v := .bool false) (some 12) (Qu.eqv (u := .bool x3_5) (v := .bool false) (0, 0) [] (by kernel_rfl) (congrArg Value.bool hc2)) (by kernel_rfl) ?_
      refine O.pure 3 [] [2] [] (fr' := [(2, .bool false)]) (bx' := []) (by kernel_rfl) ?_
      refine O.nil (by kernel_rfl) ?_
      obtain rfl := Option.some.inj H
      exact J.doneS [] [] [] [] [] () (vs := [.bool false]) (by kernel_rfl) (by kernel_rfl) (by kernel_rfl) (by kernel_rfl) (by kernel_rfl) (by decide)
def haywainlaw05_BoxSorts.Pure : Prop := ∀ (a0 : List S40), (a0.length * 16 ≤ 140737488351232 ∧ ∀ x_ ∈ a0, wf40 x_) → ∃ K, haywainlaw05_BoxSorts.f K a0 = some true
end Go.Proofs.Ytdbeannfjjbegaa.G
