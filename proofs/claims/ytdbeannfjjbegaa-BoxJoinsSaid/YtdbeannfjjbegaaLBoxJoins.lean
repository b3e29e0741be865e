/- The law BoxJoins as plain Lean, with its contract; printed by a program of this session. -/
import Derived.Test.YtdbeannfjjbegaaG1
set_option linter.unusedVariables false
set_option linter.unusedSimpArgs false
namespace Go.Proofs.Ytdbeannfjjbegaa.G
open Go Go.RowKit Go.Hw
/-! ### haywain/haywainlaw05.BoxJoins: function 4 -/
def haywainlaw05_BoxJoins.l11 (K : Nat) (a0 : List (List S40)) : Nat → Int → Option (Unit ⊕ Bool)
  | 0, _ => none
  | k + 1, s11 => cond (decide (s11 < (a0.length : Int))) ((idxO a0 s11).bind fun x6_2 => (haywainlaw05_great.f K x6_2).bind fun x6_4 => cond x6_4 ((haywainlaw05_knows.f K).bind fun x7_0 => some (.inr (x7_0))) (haywainlaw05_BoxJoins.l11 K a0 k (IntKind.wrap .i64 (s11 + 1)))) (some (.inl ()))
def haywainlaw05_BoxJoins.f (K : Nat) (a0 : List (List S40)) : Option Bool := cond (decide ((a0.length : Int) > 20)) ((haywainlaw05_knows.f K).bind fun x2_0 => some (x2_0)) ((haywainlaw05_BoxJoins.l11 K a0 K 0 : Option (Unit ⊕ Bool)).bind (Sum.elim (fun o2 : Unit => (box_Join.f K a0).bind fun x8_1 => (haywainref05_Join.f K a0).bind fun x8_3 => (haywainref04_SameMsgs.f K x8_1 x8_3).bind fun x8_4 => cond x8_4 ((haywainlaw05_knows.f K).bind fun x8_6 => some (x8_6)) (some (false))) some))
set_option maxRecDepth 100000 in
set_option maxHeartbeats 1000000 in
theorem haywainlaw05_BoxJoins.con (K : Nat) (a0 : List (List S40)) (h0 : Hd) (r : Bool) (X : Nat → Nat → Prop) (w : World) (hS : St X w [] [] [] [] [Rd (Kd.slice kd40) h0.1 h0.2 a0] w) (H : haywainlaw05_BoxJoins.f K a0 = some r) :
    Cn Try.prog 4 [.slice h0.1 a0.length h0.2] X w [] (fun i : Unit => .bool r) (fun i => []) (fun i => []) (fun i => []) := by
  refine Cn.of Try.func4 (by kernel_rfl) hS ?_
  unfold haywainlaw05_BoxJoins.f at H
  refine J.seq (by kernel_rfl) ?_
  refine J.region (by kernel_rfl) ?_
  refine O.pure 1 [] [0] [] (fr' := [(0, .slice h0.1 a0.length h0.2)]) (bx' := []) (by kernel_rfl) ?_
  refine O.nil (by kernel_rfl) ?_
  refine J.seq (by kernel_rfl) ?_
  refine J.seq (by kernel_rfl) ?_
  refine J.region (by kernel_rfl) ?_
  refine O.pure 3 [] [0, 6] [] (fr' := [(0, .slice h0.1 a0.length h0.2), (6, .bool (decide ((a0.length : Int) > 20)))]) (bx' := []) (by kernel_rfl) ?_
  refine O.nil (by kernel_rfl) ?_
  rcases condE H with ⟨hc1, H⟩ | ⟨hc1, H⟩
  · refine J.condT (x := .tmp 6) (t := (decide ((a0.length : Int) > 20))) (by kernel_rfl) (by kernel_rfl) hc1 ?_
    refine J.seq (by kernel_rfl) ?_
    obtain ⟨x2_0, hx2_0, H⟩ := bindE H
    refine J.region (by kernel_rfl) ?_
    refine O.e (some 7) (Ev.call0 (xs := []) [] (by kernel_rfl) (by kernel_rfl) (fun w hS => haywainlaw05_knows.con K  _ _ w hS hx2_0)) (by kernel_rfl) (fun _ => ?_)
    refine O.pure 1 [] [2] [] (fr' := [(2, .bool x2_0)]) (bx' := []) (by kernel_rfl) ?_
    refine O.nil (by kernel_rfl) ?_
    obtain rfl := Option.some.inj H
    exact J.doneS [] [] [] [] [] () (vs := [.bool x2_0]) (by kernel_rfl) (by kernel_rfl) (by kernel_rfl) (by kernel_rfl) (by kernel_rfl) (by decide)
  · refine J.condF (x := .tmp 6) (t := (decide ((a0.length : Int) > 20))) (by kernel_rfl) (by kernel_rfl) hc1 ?_
    refine J.skip (by kernel_rfl) ?_
    refine J.seq (by kernel_rfl) ?_
    refine J.seq (by kernel_rfl) ?_
    refine J.region (by kernel_rfl) ?_
    refine O.pure 1 [] [0, 3] [] (fr' := [(0, .slice h0.1 a0.length h0.2), (3, .int .i64 0)]) (bx' := []) (by kernel_rfl) ?_
    refine O.nil (by kernel_rfl) ?_
    refine J.joinS (α := Unit) (γ := Unit) (fun o2 q2 => [(0, .slice h0.1 a0.length h0.2)]) (fun o2 q2 => St X w [] [] [] [] [Rd (Kd.slice kd40) h0.1 h0.2 a0]) H (fun o2 q2 H => ?_) (fun o2 H hj2 => ?_)
    · refine J.seq (by kernel_rfl) ?_
      obtain ⟨x8_1, hx8_1, H⟩ := bindE H
      obtain ⟨x8_3, hx8_3, H⟩ := bindE H
      obtain ⟨x8_4, hx8_4, H⟩ := bindE H
      rcases condE H with ⟨hc10, H⟩ | ⟨hc10, H⟩
      · obtain ⟨x8_6, hx8_6, H⟩ := bindE H
        refine J.region (by kernel_rfl) ?_
        refine O.pure 1 [] [0, 20] [] (fr' := [(0, .slice h0.1 a0.length h0.2), (20, .slice h0.1 a0.length h0.2)]) (bx' := []) (by kernel_rfl) ?_
        refine O.e (some 21) (Ev.call0 (xs := [.tmp 20]) [0] (by kernel_rfl) (by kernel_rfl) (fun w hS => box_Join.con K a0 h0  _ _ w hS hx8_1)) (by kernel_rfl) (fun p8_1 => ?_)
        refine O.pure 1 [] [21, 22] [] (fr' := [(21, .slice p8_1.1 x8_1.length p8_1.2), (22, .slice h0.1 a0.length h0.2)]) (bx' := []) (by kernel_rfl) ?_
        refine O.e (some 23) (Ev.call0 (xs := [.tmp 22]) [0] (by kernel_rfl) (by kernel_rfl) (fun w hS => haywainref05_Join.con K a0 h0  _ _ w hS hx8_3)) (by kernel_rfl) (fun p8_3 => ?_)
        refine O.e (some 24) (Ev.mono (fun w hS => hS.rowsel [1, 0] rfl (by decide)) (Ev.mono (fun w hS => hS.freezeH (h := p8_1) (xs := x8_1)) (Ev.mono (fun w hS => hS.freezeH (h := p8_3) (xs := x8_3)) (Ev.call0 (xs := [.tmp 21, .tmp 23]) [1, 0] (by kernel_rfl) (by kernel_rfl) (fun w hS => haywainref04_SameMsgs.con K x8_1 x8_3 p8_1 p8_3  _ _ w hS hx8_4))))) (by kernel_rfl) (fun _ => ?_)
        refine O.q (v := .bool true) (some 25) (Qu.eqv (u := .bool x8_4) (v := .bool true) (0, 0) [] (by kernel_rfl) (congrArg Value.bool hc10)) (by kernel_rfl) ?_
        refine O.e (some 26) (Ev.call0 (xs := []) [] (by kernel_rfl) (by kernel_rfl) (fun w hS => haywainlaw05_knows.con K  _ _ w hS hx8_6)) (by kernel_rfl) (fun _ => ?_)
        refine O.pure 2 [] [2] [] (fr' := [(2, .bool x8_6)]) (bx' := []) (by kernel_rfl) ?_
        refine O.nil (by kernel_rfl) ?_
        obtain rfl := Option.some.inj H
        exact J.doneS [] [] [] [] [] () (vs := [.bool x8_6]) (by kernel_rfl) (by kernel_rfl) (by kernel_rfl) (by kernel_rfl) (by kernel_rfl) (by decide)
      · refine J.region (by kernel_rfl) ?_
        refine O.pure 1 [] [0, 20] [] (fr' := [(0, .slice h0.1 a0.length h0.2), (20, .slice h0.1 a0.length h0.2)]) (bx' := []) (by kernel_rfl) ?_
        refine O.e (some 21) (Ev.call0 (xs := [.tmp 20]) [0] (by kernel_rfl) (by kernel_rfl) (fun w hS => box_Join.con K a0 h0  _ _ w hS hx8_1)) (by kernel_rfl) (fun p8_1 => ?_)
        refine O.pure 1 [] [21, 22] [] (fr' := [(21, .slice p8_1.1 x8_1.length p8_1.2), (22, .slice h0.1 a0.length h0.2)]) (bx' := []) (by kernel_rfl) ?_
        refine O.e (some 23) (Ev.call0 (xs := [.tmp 22]) [0] (by kernel_rfl) (by kernel_rfl) (fun w hS => haywainref05_Join.con K a0 h0  _ _ w hS hx8_3)) (by kernel_rfl) (fun p8_3 => ?_)
        refine O.e (some 24) (Ev.mono (fun w hS => hS.rowsel [1, 0] rfl (by decide)) (Ev.mono (fun w hS => hS.freezeH (h := p8_1) (xs := x8_1)) (Ev.mono (fun w hS => hS.freezeH (h := p8_3) (xs := x8_3)) (Ev.call0 (xs := [.tmp 21, .tmp 23]) [1, 0] (by kernel_rfl) (by kernel_rfl) (fun w hS => haywainref04_SameMsgs.con K x8_1 x8_3 p8_1 p8_3  _ _ w hS hx8_4))))) (by kernel_rfl) (fun _ => ?_)
        refine O.q (v := .bool false) (some 25) (Qu.eqv (u := .bool x8_4) (v := .bool false) (0, 0) [] (by kernel_rfl) (congrArg Value.bool hc10)) (by kernel_rfl) ?_
        refine O.pure 3 [] [2] [] (fr' := [(2, .bool false)]) (bx' := []) (by kernel_rfl) ?_
        refine O.nil (by kernel_rfl) ?_
        obtain rfl := Option.some.inj H
        exact J.doneS [] [] [] [] [] () (vs := [.bool false]) (by kernel_rfl) (by kernel_rfl) (by kernel_rfl) (by kernel_rfl) (by kernel_rfl) (by decide)
    · refine J.block (id := 0) (by kernel_rfl) ?_
      refine J.loopI (σ := Int) (γ := Unit) (f := fun m_ s_ => haywainlaw05_BoxJoins.l11 K a0 m_ s_) (fun s11 g11 => [(0, .slice h0.1 a0.length h0.2), (3, .int .i64 s11)]) (fun s11 g11 => St X w [] [] [] [] [Rd (Kd.slice kd40) h0.1 h0.2 a0]) K 0 () (by kernel_rfl) H (fun _ => rfl) (fun m_ s11 H ih11 g11 => ?_) (fun h_ => ?_)
      · unfold haywainlaw05_BoxJoins.l11 at H
        refine J.seq (by kernel_rfl) ?_
        refine J.seq (by kernel_rfl) ?_
        refine J.region (by kernel_rfl) ?_
        refine O.pure 4 [] [0, 3, 11] [] (fr' := [(0, .slice h0.1 a0.length h0.2), (3, .int .i64 s11), (11, .bool (decide (s11 < (a0.length : Int))))]) (bx' := []) (by kernel_rfl) ?_
        refine O.nil (by kernel_rfl) ?_
        rcases condE H with ⟨hc16, H⟩ | ⟨hc16, H⟩
        · refine J.condT (x := .tmp 11) (t := (decide (s11 < (a0.length : Int)))) (by kernel_rfl) (by kernel_rfl) hc16 ?_
          refine J.skip (by kernel_rfl) ?_
          refine J.seq (by kernel_rfl) ?_
          refine J.block (id := 1) (by kernel_rfl) ?_
          refine J.seq (by kernel_rfl) ?_
          obtain ⟨x6_2, hx6_2, H⟩ := bindE H
          obtain ⟨hx6_2a, hx6_2⟩ := idxE hx6_2
          obtain ⟨x6_4, hx6_4, H⟩ := bindE H
          refine J.region (by kernel_rfl) ?_
          refine O.pure 2 [] [0, 3, 14, 15] [] (fr' := [(0, .slice h0.1 a0.length h0.2), (3, .int .i64 s11), (14, .slice h0.1 a0.length h0.2), (15, .int .i64 s11)]) (bx' := []) (by kernel_rfl) ?_
          refine O.open (d := (Kd.slice kd40)) (h := h0) (i := s11) 0 rfl hx6_2 (Lay.slice _ _) (fun p6_2 hp6_2A => ?_)
          refine O.q (v := .pointer (some ⟨p6_2.1, p6_2.2.1 + s11.toNat * 1, none⟩)) (some 16) (Qu.idx (t := 27) (x := .tmp 14) (y := .tmp 15) (c := h0.2) (kk := .i64) (sz := 1) (by kernel_rfl) (by kernel_rfl) (by kernel_rfl) (by kernel_rfl) hx6_2a (idx_lt hx6_2) hp6_2A) (by kernel_rfl) ?_
          refine O.pure 1 [(0, 0)] [0, 3, 17] [p6_2.1, p6_2.2.1 + s11.toNat * 1] (fr' := [(0, .slice h0.1 a0.length h0.2), (3, .int .i64 s11), (17, .slice p6_2.2.2.1 x6_2.length p6_2.2.2.2)]) (bx' := []) (by kernel_rfl) ?_
          refine O.e (some 18) (Ev.call0 (xs := [.tmp 17]) [0] (by kernel_rfl) (by kernel_rfl) (fun w hS => haywainlaw05_great.con K x6_2 p6_2.2.2  _ _ w hS hx6_4)) (by kernel_rfl) (fun _ => ?_)
          refine O.nil (by kernel_rfl) ?_
          rcases condE H with ⟨hc17, H⟩ | ⟨hc17, H⟩
          · refine J.condT (x := .tmp 18) (t := x6_4) (by kernel_rfl) (by kernel_rfl) hc17 ?_
            refine J.seq (by kernel_rfl) ?_
            obtain ⟨x7_0, hx7_0, H⟩ := bindE H
            refine J.region (by kernel_rfl) ?_
            refine O.e (some 19) (Ev.call0 (xs := []) [] (by kernel_rfl) (by kernel_rfl) (fun w hS => haywainlaw05_knows.con K  _ _ w hS hx7_0)) (by kernel_rfl) (fun _ => ?_)
            refine O.pure 1 [] [2] [] (fr' := [(2, .bool x7_0)]) (bx' := []) (by kernel_rfl) ?_
            refine O.nil (by kernel_rfl) ?_
            obtain rfl := Option.some.inj H
            obtain rfl := hj2.2 _ rfl
            exact J.doneS [] [] [] [] [] () (vs := [.bool x7_0]) (by kernel_rfl) (by kernel_rfl) (by kernel_rfl) (by kernel_rfl) (by kernel_rfl) (by decide)
          · refine J.condF (x := .tmp 18) (t := x6_4) (by kernel_rfl) (by kernel_rfl) hc17 ?_
            refine J.skip (by kernel_rfl) ?_
            refine J.out ?_
            refine J.region (by kernel_rfl) ?_
            refine O.pure 3 [] [0, 3] [] (fr' := [(0, .slice h0.1 a0.length h0.2), (3, .int .i64 (IntKind.wrap .i64 (s11 + 1)))]) (bx' := []) (by kernel_rfl) ?_
            refine O.nil (by kernel_rfl) ?_
            exact J.conv2 [0, 3] [1] [] [] (by kernel_rfl) (by kernel_rfl) (by kernel_rfl) (by kernel_rfl) (by decide) (ih11 (IntKind.wrap .i64 (s11 + 1)) () H)
        · refine J.condF (x := .tmp 11) (t := (decide (s11 < (a0.length : Int)))) (by kernel_rfl) (by kernel_rfl) hc16 ?_
          refine J.exit (id := 0) (by kernel_rfl) rfl ?_
          obtain rfl := Option.some.inj H
          exact J.conv2 [0] [0] [] [] (by kernel_rfl) (by kernel_rfl) (by kernel_rfl) (by kernel_rfl) (by decide) (hj2.1 _ rfl ())
      · exact J.conv2 [0, 3] [0] [] [] (by kernel_rfl) (by kernel_rfl) (by kernel_rfl) (by kernel_rfl) (by decide) h_
def haywainlaw05_BoxJoins.Pure : Prop := ∀ (a0 : List (List S40)), (a0.length * 24 ≤ 140737488351232 ∧ ∀ x_ ∈ a0, x_.length * 16 ≤ 140737488351232 ∧ ∀ x__ ∈ x_, wf40 x__) → ∃ K, haywainlaw05_BoxJoins.f K a0 = some true
end Go.Proofs.Ytdbeannfjjbegaa.G
