/- The law MailRights as plain Lean, with its contract; printed by a program of this session. -/
import Derived.Test.YtlcbgmaajijbjaaG4
set_option linter.unusedVariables false
set_option linter.unusedSimpArgs false
namespace Go.Proofs.Ytlcbgmaajijbjaa.G
open Go Go.RowKit Go.Hw
/-! ### haywain/haywainlaw15.MailRights: function 3 -/
def haywainlaw15_MailRights.f (K : Nat) (a0 : S29) : Option Bool := (haywainlaw15_Wide.f K a0).bind fun x1_1 => cond (decide (x1_1 > 100)) ((haywainlaw15_knows.f K).bind fun x2_0 => some (x2_0)) ((mail_Right.f K a0).bind fun x3_1 => (haywainlaw15_As.f K a0).bind fun x3_3 => (haywainref15_Right.f K x3_3).bind fun x3_4 => cond (x3_1 == x3_4) ((haywainlaw15_knows.f K).bind fun x3_7 => some (x3_7)) (some (false)))
set_option maxRecDepth 100000 in
set_option maxHeartbeats 1000000 in
theorem haywainlaw15_MailRights.con (K : Nat) (a0 : S29) (h0 : Hd) (h1 : Hd) (h2 : Hd) (h3 : Hd) (h4 : Hd) (h5 : Hd) (h6 : Hd) (r : Bool) (X : Nat → Nat → Prop) (w : World) (hS : St X w [] [] [] [] [Rd (Kd.int .i64) h0.1 h0.2 a0.f8, Rd (Kd.int .i64) h1.1 h1.2 a0.f9, Rd (Kd.int .i64) h2.1 h2.2 a0.f10, Rd (Kd.int .i64) h3.1 h3.2 a0.f11.f2, Rd Kd.bool h4.1 h4.2 a0.f11.f3, Rd kd77 h5.1 h5.2 a0.f11.f4, Rd kd77 h6.1 h6.2 a0.f12] w) (H : haywainlaw15_MailRights.f K a0 = some r) :
    Cn Try.prog 3 [.agg #[.int .i64 a0.f0, .int .i64 a0.f1, .int .i64 a0.f2, .int .i64 a0.f3, .int .i64 a0.f4, .int .i64 a0.f5, .int .i64 a0.f6, .int .i64 a0.f7, .slice h0.1 a0.f8.length h0.2, .slice h1.1 a0.f9.length h1.2, .slice h2.1 a0.f10.length h2.2, .int .i64 a0.f11.f0, .int .i64 a0.f11.f1, .slice h3.1 a0.f11.f2.length h3.2, .slice h4.1 a0.f11.f3.length h4.2, .slice h5.1 a0.f11.f4.length h5.2, .slice h6.1 a0.f12.length h6.2]] X w [] (fun i : Unit => .bool r) (fun i => []) (fun i => []) (fun i => []) := by
  refine Cn.of Try.func3 (by kernel_rfl) hS ?_
  unfold haywainlaw15_MailRights.f at H
  refine J.seq (by kernel_rfl) ?_
  refine J.region (by kernel_rfl) ?_
  refine O.e (some 1) (Ev.box (t := 29) (x := .tmp 0) (v := .agg #[.int .i64 a0.f0, .int .i64 a0.f1, .int .i64 a0.f2, .int .i64 a0.f3, .int .i64 a0.f4, .int .i64 a0.f5, .int .i64 a0.f6, .int .i64 a0.f7, .slice h0.1 a0.f8.length h0.2, .slice h1.1 a0.f9.length h1.2, .slice h2.1 a0.f10.length h2.2, .int .i64 a0.f11.f0, .int .i64 a0.f11.f1, .slice h3.1 a0.f11.f2.length h3.2, .slice h4.1 a0.f11.f3.length h4.2, .slice h5.1 a0.f11.f4.length h5.2, .slice h6.1 a0.f12.length h6.2]) (by kernel_rfl) (by kernel_rfl)) (by kernel_rfl) (fun p0_0 => ?_)
  refine O.pure 1 [] [1] [] (fr' := [(1, .pointer (some ⟨p0_0, 0, none⟩))]) (bx' := [⟨p0_0, [.int .i64 a0.f0, .int .i64 a0.f1, .int .i64 a0.f2, .int .i64 a0.f3, .int .i64 a0.f4, .int .i64 a0.f5, .int .i64 a0.f6, .int .i64 a0.f7, .slice h0.1 a0.f8.length h0.2, .slice h1.1 a0.f9.length h1.2, .slice h2.1 a0.f10.length h2.2, .int .i64 a0.f11.f0, .int .i64 a0.f11.f1, .slice h3.1 a0.f11.f2.length h3.2, .slice h4.1 a0.f11.f3.length h4.2, .slice h5.1 a0.f11.f4.length h5.2, .slice h6.1 a0.f12.length h6.2], 29⟩]) (by kernel_rfl) ?_
  refine O.nil (by kernel_rfl) ?_
  refine J.seq (by kernel_rfl) ?_
  refine J.seq (by kernel_rfl) ?_
  obtain ⟨x1_1, hx1_1, H⟩ := bindE H
  refine J.region (by kernel_rfl) ?_
  refine O.pure 1 [(0, 0)] [1, 3] [p0_0, 0] (fr' := [(1, .pointer (some ⟨p0_0, 0, none⟩)), (3, .agg #[.int .i64 a0.f0, .int .i64 a0.f1, .int .i64 a0.f2, .int .i64 a0.f3, .int .i64 a0.f4, .int .i64 a0.f5, .int .i64 a0.f6, .int .i64 a0.f7, .slice h0.1 a0.f8.length h0.2, .slice h1.1 a0.f9.length h1.2, .slice h2.1 a0.f10.length h2.2, .int .i64 a0.f11.f0, .int .i64 a0.f11.f1, .slice h3.1 a0.f11.f2.length h3.2, .slice h4.1 a0.f11.f3.length h4.2, .slice h5.1 a0.f11.f4.length h5.2, .slice h6.1 a0.f12.length h6.2])]) (bx' := [⟨p0_0, [.int .i64 a0.f0, .int .i64 a0.f1, .int .i64 a0.f2, .int .i64 a0.f3, .int .i64 a0.f4, .int .i64 a0.f5, .int .i64 a0.f6, .int .i64 a0.f7, .slice h0.1 a0.f8.length h0.2, .slice h1.1 a0.f9.length h1.2, .slice h2.1 a0.f10.length h2.2, .int .i64 a0.f11.f0, .int .i64 a0.f11.f1, .slice h3.1 a0.f11.f2.length h3.2, .slice h4.1 a0.f11.f3.length h4.2, .slice h5.1 a0.f11.f4.length h5.2, .slice h6.1 a0.f12.length h6.2], 29⟩]) (by kernel_rfl) ?_
  refine O.e (some 4) (Ev.call0 (xs := [.tmp 3]) [0, 1, 2, 3, 4, 5, 6] (by kernel_rfl) (by kernel_rfl) (fun w hS => haywainlaw15_Wide.con K a0 h0 h1 h2 h3 h4 h5 h6  _ _ w hS hx1_1)) (by kernel_rfl) (fun _ => ?_)
  refine O.pure 1 [] [1, 5] [] (fr' := [(1, .pointer (some ⟨p0_0, 0, none⟩)), (5, .bool (decide (x1_1 > 100)))]) (bx' := [⟨p0_0, [.int .i64 a0.f0, .int .i64 a0.f1, .int .i64 a0.f2, .int .i64 a0.f3, .int .i64 a0.f4, .int .i64 a0.f5, .int .i64 a0.f6, .int .i64 a0.f7, .slice h0.1 a0.f8.length h0.2, .slice h1.1 a0.f9.length h1.2, .slice h2.1 a0.f10.length h2.2, .int .i64 a0.f11.f0, .int .i64 a0.f11.f1, .slice h3.1 a0.f11.f2.length h3.2, .slice h4.1 a0.f11.f3.length h4.2, .slice h5.1 a0.f11.f4.length h5.2, .slice h6.1 a0.f12.length h6.2], 29⟩]) (by kernel_rfl) ?_
  refine O.nil (by kernel_rfl) ?_
  rcases condE H with ⟨hc1, H⟩ | ⟨hc1, H⟩
  · refine J.condT (x := .tmp 5) (t := (decide (x1_1 > 100))) (by kernel_rfl) (by kernel_rfl) hc1 ?_
    refine J.seq (by kernel_rfl) ?_
    obtain ⟨x2_0, hx2_0, H⟩ := bindE H
    refine J.region (by kernel_rfl) ?_
    refine O.e (some 6) (Ev.call0 (xs := []) [] (by kernel_rfl) (by kernel_rfl) (fun w hS => haywainlaw15_knows.con K  _ _ w hS hx2_0)) (by kernel_rfl) (fun _ => ?_)
    refine O.pure 1 [] [2] [] (fr' := [(2, .bool x2_0)]) (bx' := [⟨p0_0, [.int .i64 a0.f0, .int .i64 a0.f1, .int .i64 a0.f2, .int .i64 a0.f3, .int .i64 a0.f4, .int .i64 a0.f5, .int .i64 a0.f6, .int .i64 a0.f7, .slice h0.1 a0.f8.length h0.2, .slice h1.1 a0.f9.length h1.2, .slice h2.1 a0.f10.length h2.2, .int .i64 a0.f11.f0, .int .i64 a0.f11.f1, .slice h3.1 a0.f11.f2.length h3.2, .slice h4.1 a0.f11.f3.length h4.2, .slice h5.1 a0.f11.f4.length h5.2, .slice h6.1 a0.f12.length h6.2], 29⟩]) (by kernel_rfl) ?_
    refine O.nil (by kernel_rfl) ?_
    obtain rfl := Option.some.inj H
    exact J.doneS [] [] [] [] [] () (vs := [.bool x2_0]) (by kernel_rfl) (by kernel_rfl) (by kernel_rfl) (by kernel_rfl) (by kernel_rfl) (by decide)
  · refine J.condF (x := .tmp 5) (t := (decide (x1_1 > 100))) (by kernel_rfl) (by kernel_rfl) hc1 ?_
    refine J.skip (by kernel_rfl) ?_
    refine J.seq (by kernel_rfl) ?_
    obtain ⟨x3_1, hx3_1, H⟩ := bindE H
    obtain ⟨x3_3, hx3_3, H⟩ := bindE H
    obtain ⟨x3_4, hx3_4, H⟩ := bindE H
    rcases condE H with ⟨hc2, H⟩ | ⟨hc2, H⟩
    · obtain ⟨x3_7, hx3_7, H⟩ := bindE H
      refine J.drawS (by kernel_rfl) [(0, some 7, .agg #[.int .i64 a0.f0, .int .i64 a0.f1, .int .i64 a0.f2, .int .i64 a0.f3, .int .i64 a0.f4, .int .i64 a0.f5, .int .i64 a0.f6, .int .i64 a0.f7, .slice h0.1 a0.f8.length h0.2, .slice h1.1 a0.f9.length h1.2, .slice h2.1 a0.f10.length h2.2, .int .i64 a0.f11.f0, .int .i64 a0.f11.f1, .slice h3.1 a0.f11.f2.length h3.2, .slice h4.1 a0.f11.f3.length h4.2, .slice h5.1 a0.f11.f4.length h5.2, .slice h6.1 a0.f12.length h6.2]), (2, some 9, .agg #[.int .i64 a0.f0, .int .i64 a0.f1, .int .i64 a0.f2, .int .i64 a0.f3, .int .i64 a0.f4, .int .i64 a0.f5, .int .i64 a0.f6, .int .i64 a0.f7, .slice h0.1 a0.f8.length h0.2, .slice h1.1 a0.f9.length h1.2, .slice h2.1 a0.f10.length h2.2, .int .i64 a0.f11.f0, .int .i64 a0.f11.f1, .slice h3.1 a0.f11.f2.length h3.2, .slice h4.1 a0.f11.f3.length h4.2, .slice h5.1 a0.f11.f4.length h5.2, .slice h6.1 a0.f12.length h6.2])] ([0, 2] ++ []) (by kernel_rfl) ?_
      refine D.mid (cs := [1]) [0, 2] [] [(0, 0), (0, 0)] [p0_0, 0, p0_0, 0] (by kernel_rfl) (by kernel_rfl) trivial (by kernel_rfl) ⟨?_, trivial⟩
      refine EvStep.mk (some 8) (new := fun _ => []) ([2] ++ []) (by kernel_rfl) (Ev.call0 (xs := [.tmp 7]) [0, 1, 2, 3, 4, 5, 6] (by kernel_rfl) (by kernel_rfl) (fun w hS => mail_Right.con K a0 h0 h1 h2 h3 h4 h5 h6  _ _ w hS hx3_1)) (fun _ => by kernel_rfl) (fun _ => ?_)
      refine D.mid (cs := [3]) [2] [] [(0, 0)] [p0_0, 0] (by kernel_rfl) (by kernel_rfl) trivial (by kernel_rfl) ⟨?_, trivial⟩
      refine EvStep.mk (some 10) (new := fun p3_3 => []) ([] ++ []) (by kernel_rfl) (Ev.call0 (xs := [.tmp 9]) [0, 1, 2, 3, 4, 5, 6] (by kernel_rfl) (by kernel_rfl) (fun w hS => haywainlaw15_As.con K a0 h0 h1 h2 h3 h4 h5 h6  _ _ w hS hx3_3)) (fun p3_3 => by kernel_rfl) (fun p3_3 => ?_)
      refine D.mid (cs := [4]) [] [] [] [] (by kernel_rfl) (by kernel_rfl) trivial (by kernel_rfl) ⟨?_, trivial⟩
      refine EvStep.mk (some 11) (new := fun _ => [(5, some 12, .bool true), (6, some 13, .bool true)]) ([6] ++ [5]) (by kernel_rfl) (Ev.call0 (xs := [.tmp 10]) [0, 1, 2, 3, 4, 5, 6] (by kernel_rfl) (by kernel_rfl) (fun w hS => haywainref15_Right.con K x3_3 p3_3.1 p3_3.2.1 p3_3.2.2.1 p3_3.2.2.2.1 p3_3.2.2.2.2.1 p3_3.2.2.2.2.2.1 p3_3.2.2.2.2.2.2  _ _ w hS hx3_4)) (fun _ => by kernel_rfl) (fun _ => ?_)
      refine D.mid (cs := [7]) [6] [5] [] [] (by kernel_rfl) (by kernel_rfl) (⟨QuAt.mk (v := .bool true) (some 12) (by kernel_rfl) (by kernel_rfl) (Qu.as (congrArg Value.bool hc2) (Qu.binT (op := .eql) (t := 4) (t' := 4) (x := .tmp 8) (y := .tmp 11) (u := .bool x3_1) (v := .bool x3_4) (by kernel_rfl) (by kernel_rfl) (by kernel_rfl) (by kernel_rfl))), trivial⟩) (by kernel_rfl) ⟨?_, trivial⟩
      refine EvStep.mk (some 14) (new := fun _ => [(8, some 15, .bool x3_7), (9, some 2, .bool x3_7)]) ([8, 9] ++ [5]) (by kernel_rfl) (Ev.call0 (xs := []) [] (by kernel_rfl) (by kernel_rfl) (fun w hS => haywainlaw15_knows.con K  _ _ w hS hx3_7)) (fun _ => by kernel_rfl) (fun _ => ?_)
      refine D.fin (fr' := [(2, .bool x3_7)]) [8, 9] [5] [] [] [2] (by kernel_rfl) (by kernel_rfl) (⟨QuAt.mk (v := .bool true) (some 12) (by kernel_rfl) (by kernel_rfl) (Qu.as (congrArg Value.bool hc2) (Qu.binT (op := .eql) (t := 4) (t' := 4) (x := .tmp 8) (y := .tmp 11) (u := .bool x3_1) (v := .bool x3_4) (by kernel_rfl) (by kernel_rfl) (by kernel_rfl) (by kernel_rfl))), trivial⟩) (by kernel_rfl) ?_
      obtain rfl := Option.some.inj H
      exact J.doneS [] [] [] [] [] () (vs := [.bool x3_7]) (by kernel_rfl) (by kernel_rfl) (by kernel_rfl) (by kernel_rfl) (by kernel_rfl) (by decide)
    · refine J.drawS (by kernel_rfl) [(0, some 7, .agg #[.int .i64 a0.f0, .int .i64 a0.f1, .int .i64 a0.f2, .int .i64 a0.f3, .int .i64 a0.f4, .int .i64 a0.f5, .int .i64 a0.f6, .int .i64 a0.f7, .slice h0.1 a0.f8.length h0.2, .slice h1.1 a0.f9.length h1.2, .slice h2.1 a0.f10.length h2.2, .int .i64 a0.f11.f0, .int .i64 a0.f11.f1, .slice h3.1 a0.f11.f2.length h3.2, .slice h4.1 a0.f11.f3.length h4.2, .slice h5.1 a0.f11.f4.length h5.2, .slice h6.1 a0.f12.length h6.2]), (2, some 9, .agg #[.int .i64 a0.f0, .int .i64 a0.f1, .int .i64 a0.f2, .int .i64 a0.f3, .int .i64 a0.f4, .int .i64 a0.f5, .int .i64 a0.f6, .int .i64 a0.f7, .slice h0.1 a0.f8.length h0.2, .slice h1.1 a0.f9.length h1.2, .slice h2.1 a0.f10.length h2.2, .int .i64 a0.f11.f0, .int .i64 a0.f11.f1, .slice h3.1 a0.f11.f2.length h3.2, .slice h4.1 a0.f11.f3.length h4.2, .slice h5.1 a0.f11.f4.length h5.2, .slice h6.1 a0.f12.length h6.2])] ([0, 2] ++ []) (by kernel_rfl) ?_
      refine D.mid (cs := [1]) [0, 2] [] [(0, 0), (0, 0)] [p0_0, 0, p0_0, 0] (by kernel_rfl) (by kernel_rfl) trivial (by kernel_rfl) ⟨?_, trivial⟩
      refine EvStep.mk (some 8) (new := fun _ => []) ([2] ++ []) (by kernel_rfl) (Ev.call0 (xs := [.tmp 7]) [0, 1, 2, 3, 4, 5, 6] (by kernel_rfl) (by kernel_rfl) (fun w hS => mail_Right.con K a0 h0 h1 h2 h3 h4 h5 h6  _ _ w hS hx3_1)) (fun _ => by kernel_rfl) (fun _ => ?_)
      refine D.mid (cs := [3]) [2] [] [(0, 0)] [p0_0, 0] (by kernel_rfl) (by kernel_rfl) trivial (by kernel_rfl) ⟨?_, trivial⟩
      refine EvStep.mk (some 10) (new := fun p3_3 => []) ([] ++ []) (by kernel_rfl) (Ev.call0 (xs := [.tmp 9]) [0, 1, 2, 3, 4, 5, 6] (by kernel_rfl) (by kernel_rfl) (fun w hS => haywainlaw15_As.con K a0 h0 h1 h2 h3 h4 h5 h6  _ _ w hS hx3_3)) (fun p3_3 => by kernel_rfl) (fun p3_3 => ?_)
      refine D.mid (cs := [4]) [] [] [] [] (by kernel_rfl) (by kernel_rfl) trivial (by kernel_rfl) ⟨?_, trivial⟩
      refine EvStep.mk (some 11) (new := fun _ => [(5, some 12, .bool false), (6, some 13, .bool false), (7, some 14, undef), (8, some 15, .bool false), (9, some 2, .bool false)]) ([6, 7, 8, 9] ++ [5]) (by kernel_rfl) (Ev.call0 (xs := [.tmp 10]) [0, 1, 2, 3, 4, 5, 6] (by kernel_rfl) (by kernel_rfl) (fun w hS => haywainref15_Right.con K x3_3 p3_3.1 p3_3.2.1 p3_3.2.2.1 p3_3.2.2.2.1 p3_3.2.2.2.2.1 p3_3.2.2.2.2.2.1 p3_3.2.2.2.2.2.2  _ _ w hS hx3_4)) (fun _ => by kernel_rfl) (fun _ => ?_)
      refine D.fin (fr' := [(2, .bool false)]) [6, 7, 8, 9] [5] [] [] [2] (by kernel_rfl) (by kernel_rfl) (⟨QuAt.mk (v := .bool false) (some 12) (by kernel_rfl) (by kernel_rfl) (Qu.as (congrArg Value.bool hc2) (Qu.binT (op := .eql) (t := 4) (t' := 4) (x := .tmp 8) (y := .tmp 11) (u := .bool x3_1) (v := .bool x3_4) (by kernel_rfl) (by kernel_rfl) (by kernel_rfl) (by kernel_rfl))), trivial⟩) (by kernel_rfl) ?_
      obtain rfl := Option.some.inj H
      exact J.doneS [] [] [] [] [] () (vs := [.bool false]) (by kernel_rfl) (by kernel_rfl) (by kernel_rfl) (by kernel_rfl) (by kernel_rfl) (by decide)
def haywainlaw15_MailRights.Pure : Prop := ∀ (a0 : S29), (wf29 a0) → ∃ K, haywainlaw15_MailRights.f K a0 = some true
end Go.Proofs.Ytlcbgmaajijbjaa.G
