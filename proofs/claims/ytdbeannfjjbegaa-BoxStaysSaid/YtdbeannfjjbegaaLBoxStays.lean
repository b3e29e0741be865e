/- The law BoxStays as plain Lean, with its contract; printed by a program of this session. -/
import Derived.Test.YtdbeannfjjbegaaG1
set_option linter.unusedVariables false
set_option linter.unusedSimpArgs false
namespace Go.Proofs.Ytdbeannfjjbegaa.G
open Go Go.RowKit Go.Hw
/-! ### haywain/haywainlaw05.BoxStays: function 7 -/
def haywainlaw05_BoxStays.l31 (K : Nat) (a1 : List S40) (x11_3 : (List S40) × Int) : Nat → Int → Option Bool
  | 0, _ => none
  | k + 1, s31 => cond (decide (s31 < (a1.length : Int))) ((idxO a1 s31).bind fun x23_3 => (haywainref05_At.f K x11_3.1 x23_3.f0).bind fun x23_6 => cond (!x23_6.2) (some (false)) (haywainlaw05_BoxStays.l31 K a1 x11_3 k (IntKind.wrap .i64 (s31 + 1)))) ((haywainlaw05_knows.f K).bind fun x26_0 => some (x26_0))
def haywainlaw05_BoxStays.l38 (K : Nat) (a1 : List S40) (x11_3 : (List S40) × Int) : Nat → Int → Option (Unit ⊕ Bool)
  | 0, _ => none
  | k + 1, s38 => cond (decide (s38 < (x11_3.1.length : Int))) ((idxO x11_3.1 s38).bind fun x17_3 => (haywainref05_At.f K a1 x17_3.f0).bind fun x17_6 => cond (!x17_6.2) (some (.inr (false))) (cond (decide (s38 > 0)) ((idxO x11_3.1 s38).bind fun x18_8 => (idxO x11_3.1 (IntKind.wrap .i64 (s38 - 1))).bind fun x18_14 => cond (decide (x18_8.f0 ≤ x18_14.f0)) (some (.inr (false))) (haywainlaw05_BoxStays.l38 K a1 x11_3 k (IntKind.wrap .i64 (s38 + 1)))) (haywainlaw05_BoxStays.l38 K a1 x11_3 k (IntKind.wrap .i64 (s38 + 1))))) (some (.inl ()))
def haywainlaw05_BoxStays.l49 (K : Nat) (x3_2 : List S40) : Nat → Int → Option (Unit ⊕ Bool)
  | 0, _ => none
  | k + 1, s49 => cond (decide (s49 < (x3_2.length : Int))) ((idxO x3_2 s49).bind fun x9_2 => (idxO x3_2 (IntKind.wrap .i64 (s49 - 1))).bind fun x9_8 => cond (decide (x9_2.f0 < x9_8.f0)) (some (.inr (false))) ((idxO x3_2 s49).bind fun x9_15 => (idxO x3_2 (IntKind.wrap .i64 (s49 - 1))).bind fun x9_21 => cond (x9_15.f0 == x9_21.f0) ((idxO x3_2 s49).bind fun x9_28 => (idxO x3_2 (IntKind.wrap .i64 (s49 - 1))).bind fun x9_34 => cond (decide (x9_28.f1 < x9_34.f1)) (some (.inr (false))) (haywainlaw05_BoxStays.l49 K x3_2 k (IntKind.wrap .i64 (s49 + 1)))) (haywainlaw05_BoxStays.l49 K x3_2 k (IntKind.wrap .i64 (s49 + 1))))) (some (.inl ()))
def haywainlaw05_BoxStays.f (K : Nat) (a0 : Int) (a1 : List S40) : Option Bool := (haywainlaw05_great.f K a1).bind fun x1_1 => cond x1_1 ((haywainlaw05_knows.f K).bind fun x2_0 => some (x2_0)) ((haywainlaw05_own.f K a1).bind fun x3_1 => (box_Sort.f K x3_1).bind fun x3_2 => cond ((x3_2.length : Int) != (a1.length : Int)) (some (false)) ((haywainlaw05_BoxStays.l49 K x3_2 K 1 : Option (Unit ⊕ Bool)).bind (Sum.elim (fun o3 : Unit => (haywainlaw05_own.f K a1).bind fun x11_2 => (box_Fold.f K a0 x11_2).bind fun x11_3 => cond (x11_3.2 != 0) (cond ((x11_3.1.length : Int) == 0) ((haywainlaw05_knows.f K).bind fun x13_4 => some (x13_4)) (some (false))) ((haywainlaw05_BoxStays.l38 K a1 x11_3 K 0 : Option (Unit ⊕ Bool)).bind (Sum.elim (fun o19 : Unit => haywainlaw05_BoxStays.l31 K a1 x11_3 K 0) some))) some)))
set_option maxRecDepth 100000 in
set_option maxHeartbeats 1000000 in
theorem haywainlaw05_BoxStays.con (K : Nat) (a0 : Int) (a1 : List S40) (h0 : Hd) (r : Bool) (X : Nat → Nat → Prop) (w : World) (hS : St X w [] [] [] [] [Rd kd40 h0.1 h0.2 a1] w) (H : haywainlaw05_BoxStays.f K a0 a1 = some r) :
    Cn Try.prog 7 [.int .i64 a0, .slice h0.1 a1.length h0.2] X w [] (fun i : Unit => .bool r) (fun i => []) (fun i => []) (fun i => []) := by
  refine Cn.of Try.func7 (by kernel_rfl) hS ?_
  unfold haywainlaw05_BoxStays.f at H
  refine J.seq (by kernel_rfl) ?_
  refine J.region (by kernel_rfl) ?_
  refine O.pure 1 [] [0, 1] [] (fr' := [(0, .int .i64 a0), (1, .slice h0.1 a1.length h0.2)]) (bx' := []) (by kernel_rfl) ?_
  refine O.nil (by kernel_rfl) ?_
  refine J.seq (by kernel_rfl) ?_
  refine J.seq (by kernel_rfl) ?_
  obtain ⟨x1_1, hx1_1, H⟩ := bindE H
  refine J.region (by kernel_rfl) ?_
  refine O.pure 1 [] [0, 1, 15] [] (fr' := [(0, .int .i64 a0), (1, .slice h0.1 a1.length h0.2), (15, .slice h0.1 a1.length h0.2)]) (bx' := []) (by kernel_rfl) ?_
  refine O.e (some 16) (Ev.call0 (xs := [.tmp 15]) [0] (by kernel_rfl) (by kernel_rfl) (fun w hS => haywainlaw05_great.con K a1 h0  _ _ w hS hx1_1)) (by kernel_rfl) (fun _ => ?_)
  refine O.nil (by kernel_rfl) ?_
  rcases condE H with ⟨hc1, H⟩ | ⟨hc1, H⟩
  · refine J.condT (x := .tmp 16) (t := x1_1) (by kernel_rfl) (by kernel_rfl) hc1 ?_
    refine J.seq (by kernel_rfl) ?_
    obtain ⟨x2_0, hx2_0, H⟩ := bindE H
    refine J.region (by kernel_rfl) ?_
    refine O.e (some 17) (Ev.call0 (xs := []) [] (by kernel_rfl) (by kernel_rfl) (fun w hS => haywainlaw05_knows.con K  _ _ w hS hx2_0)) (by kernel_rfl) (fun _ => ?_)
    refine O.pure 1 [] [4] [] (fr' := [(4, .bool x2_0)]) (bx' := []) (by kernel_rfl) ?_
    refine O.nil (by kernel_rfl) ?_
    obtain rfl := Option.some.inj H
    exact J.doneS [] [] [] [] [] () (vs := [.bool x2_0]) (by kernel_rfl) (by kernel_rfl) (by kernel_rfl) (by kernel_rfl) (by kernel_rfl) (by decide)
  · refine J.condF (x := .tmp 16) (t := x1_1) (by kernel_rfl) (by kernel_rfl) hc1 ?_
    refine J.skip (by kernel_rfl) ?_
    refine J.seq (by kernel_rfl) ?_
    obtain ⟨x3_1, hx3_1, H⟩ := bindE H
    obtain ⟨x3_2, hx3_2, H⟩ := bindE H
    refine J.region (by kernel_rfl) ?_
    refine O.pure 1 [] [0, 1, 18] [] (fr' := [(0, .int .i64 a0), (1, .slice h0.1 a1.length h0.2), (18, .slice h0.1 a1.length h0.2)]) (bx' := []) (by kernel_rfl) ?_
    refine O.e (some 19) (Ev.call0 (xs := [.tmp 18]) [0] (by kernel_rfl) (by kernel_rfl) (fun w hS => haywainlaw05_own.con K a1 h0  _ _ w hS hx3_1)) (by kernel_rfl) (fun p3_1 => ?_)
    refine O.e (some 20) (Ev.callL (hh := p3_1) (xs := x3_1) (m := x3_1.length) (xs1 := [.tmp 19]) [0] rfl (by kernel_rfl) (by kernel_rfl) (fun _ q hq _ _ _ h => by obtain rfl := List.mem_singleton.1 hq; exact h) (fun w hS => box_Sort.con K x3_1 p3_1  _ _ w hS hx3_2)) (by kernel_rfl) (fun p3_2 => ?_)
    refine O.pure 1 [] [0, 1, 5] [] (fr' := [(0, .int .i64 a0), (1, .slice h0.1 a1.length h0.2), (5, .slice p3_2.1 x3_2.length p3_2.2)]) (bx' := []) (by kernel_rfl) ?_
    refine O.nil (by kernel_rfl) ?_
    refine J.seq (by kernel_rfl) ?_
    refine J.seq (by kernel_rfl) ?_
    refine J.region (by kernel_rfl) ?_
    refine O.pure 5 [] [0, 1, 5, 25] [] (fr' := [(0, .int .i64 a0), (1, .slice h0.1 a1.length h0.2), (5, .slice p3_2.1 x3_2.length p3_2.2), (25, .bool ((x3_2.length : Int) != (a1.length : Int)))]) (bx' := []) (by kernel_rfl) ?_
    refine O.nil (by kernel_rfl) ?_
    rcases condE H with ⟨hc2, H⟩ | ⟨hc2, H⟩
    · refine J.condT (x := .tmp 25) (t := ((x3_2.length : Int) != (a1.length : Int))) (by kernel_rfl) (by kernel_rfl) hc2 ?_
      refine J.seq (by kernel_rfl) ?_
      refine J.region (by kernel_rfl) ?_
      refine O.pure 1 [] [4] [] (fr' := [(4, .bool false)]) (bx' := []) (by kernel_rfl) ?_
      refine O.nil (by kernel_rfl) ?_
      obtain rfl := Option.some.inj H
      exact J.doneS [] [] [] [] [] () (vs := [.bool false]) (by kernel_rfl) (by kernel_rfl) (by kernel_rfl) (by kernel_rfl) (by kernel_rfl) (by decide)
    · refine J.condF (x := .tmp 25) (t := ((x3_2.length : Int) != (a1.length : Int))) (by kernel_rfl) (by kernel_rfl) hc2 ?_
      refine J.skip (by kernel_rfl) ?_
      refine J.seq (by kernel_rfl) ?_
      refine J.seq (by kernel_rfl) ?_
      refine J.region (by kernel_rfl) ?_
      refine O.pure 1 [] [0, 1, 5, 6] [] (fr' := [(0, .int .i64 a0), (1, .slice h0.1 a1.length h0.2), (5, .slice p3_2.1 x3_2.length p3_2.2), (6, .int .i64 1)]) (bx' := []) (by kernel_rfl) ?_
      refine O.nil (by kernel_rfl) ?_
      refine J.joinS (α := Unit) (γ := Unit) (fun o3 q3 => [(0, .int .i64 a0), (1, .slice h0.1 a1.length h0.2)]) (fun o3 q3 => St X w [] [] [] [] [Rd kd40 h0.1 h0.2 a1]) H (fun o3 q3 H => ?_) (fun o3 H hj3 => ?_)
      · refine J.seq (by kernel_rfl) ?_
        obtain ⟨x11_2, hx11_2, H⟩ := bindE H
        obtain ⟨x11_3, hx11_3, H⟩ := bindE H
        refine J.region (by kernel_rfl) ?_
        refine O.pure 2 [] [1, 73, 74] [] (fr' := [(1, .slice h0.1 a1.length h0.2), (73, .int .i64 a0), (74, .slice h0.1 a1.length h0.2)]) (bx' := []) (by kernel_rfl) ?_
        refine O.e (some 75) (Ev.call0 (xs := [.tmp 74]) [0] (by kernel_rfl) (by kernel_rfl) (fun w hS => haywainlaw05_own.con K a1 h0  _ _ w hS hx11_2)) (by kernel_rfl) (fun p11_2 => ?_)
        refine O.e (some 76) (Ev.callL (hh := p11_2) (xs := x11_2) (m := x11_2.length) (xs1 := [.tmp 73, .tmp 75]) [0] rfl (by kernel_rfl) (by kernel_rfl) (fun _ q hq _ _ _ h => by obtain rfl := List.mem_singleton.1 hq; exact h) (fun w hS => box_Fold.con K a0 x11_2 p11_2  _ _ w hS hx11_3)) (by kernel_rfl) (fun p11_3 => ?_)
        refine O.pure 5 [] [1, 7, 8] [] (fr' := [(1, .slice h0.1 a1.length h0.2), (7, .slice p11_3.1 x11_3.1.length p11_3.2), (8, .int .i64 x11_3.2)]) (bx' := []) (by kernel_rfl) ?_
        refine O.nil (by kernel_rfl) ?_
        refine J.seq (by kernel_rfl) ?_
        refine J.seq (by kernel_rfl) ?_
        refine J.region (by kernel_rfl) ?_
        refine O.pure 2 [] [1, 7, 80] [] (fr' := [(1, .slice h0.1 a1.length h0.2), (7, .slice p11_3.1 x11_3.1.length p11_3.2), (80, .bool (x11_3.2 != 0))]) (bx' := []) (by kernel_rfl) ?_
        refine O.nil (by kernel_rfl) ?_
        rcases condE H with ⟨hc17, H⟩ | ⟨hc17, H⟩
        · refine J.condT (x := .tmp 80) (t := (x11_3.2 != 0)) (by kernel_rfl) (by kernel_rfl) hc17 ?_
          refine J.seq (by kernel_rfl) ?_
          rcases condE H with ⟨hc18, H⟩ | ⟨hc18, H⟩
          · obtain ⟨x13_4, hx13_4, H⟩ := bindE H
            refine J.region (by kernel_rfl) ?_
            refine O.pure 2 [] [82] [] (fr' := [(82, .int .i64 (x11_3.1.length : Int))]) (bx' := []) (by kernel_rfl) ?_
            refine O.q (v := .bool true) (some 83) (Qu.eqv (u := .bool ((x11_3.1.length : Int) == 0)) (v := .bool true) (0, 0) [] (by kernel_rfl) (congrArg Value.bool hc18)) (by kernel_rfl) ?_
            refine O.pure 1 [] [84] [] (fr' := [(84, .bool true)]) (bx' := []) (by kernel_rfl) ?_
            refine O.e (some 85) (Ev.call0 (xs := []) [] (by kernel_rfl) (by kernel_rfl) (fun w hS => haywainlaw05_knows.con K  _ _ w hS hx13_4)) (by kernel_rfl) (fun _ => ?_)
            refine O.pure 2 [] [4] [] (fr' := [(4, .bool x13_4)]) (bx' := []) (by kernel_rfl) ?_
            refine O.nil (by kernel_rfl) ?_
            obtain rfl := Option.some.inj H
            exact J.doneS [] [] [] [] [] () (vs := [.bool x13_4]) (by kernel_rfl) (by kernel_rfl) (by kernel_rfl) (by kernel_rfl) (by kernel_rfl) (by decide)
          · refine J.region (by kernel_rfl) ?_
            refine O.pure 2 [] [82] [] (fr' := [(82, .int .i64 (x11_3.1.length : Int))]) (bx' := []) (by kernel_rfl) ?_
            refine O.q (v := .bool false) (some 83) (Qu.eqv (u := .bool ((x11_3.1.length : Int) == 0)) (v := .bool false) (0, 0) [] (by kernel_rfl) (congrArg Value.bool hc18)) (by kernel_rfl) ?_
            refine O.pure 4 [] [4] [] (fr' := [(4, .bool false)]) (bx' := []) (by kernel_rfl) ?_
            refine O.nil (by kernel_rfl) ?_
            obtain rfl := Option.some.inj H
            exact J.doneS [] [] [] [] [] () (vs := [.bool false]) (by kernel_rfl) (by kernel_rfl) (by kernel_rfl) (by kernel_rfl) (by kernel_rfl) (by decide)
        · refine J.condF (x := .tmp 80) (t := (x11_3.2 != 0)) (by kernel_rfl) (by kernel_rfl) hc17 ?_
          refine J.skip (by kernel_rfl) ?_
          refine J.seq (by kernel_rfl) ?_
          refine J.seq (by kernel_rfl) ?_
          refine J.region (by kernel_rfl) ?_
          refine O.pure 1 [] [1, 7, 9] [] (fr' := [(1, .slice h0.1 a1.length h0.2), (7, .slice p11_3.1 x11_3.1.length p11_3.2), (9, .int .i64 0)]) (bx' := []) (by kernel_rfl) ?_
          refine O.nil (by kernel_rfl) ?_
          refine J.joinS (α := Unit) (γ := Unit) (fun o19 q19 => [(1, .slice h0.1 a1.length h0.2), (7, .slice p11_3.1 x11_3.1.length p11_3.2)]) (fun o19 q19 => St X w [] [] [] [] [Rd kd40 h0.1 h0.2 a1, Rd kd40 p11_3.1 p11_3.2 x11_3.1]) H (fun o19 q19 H => ?_) (fun o19 H hj19 => ?_)
          · refine J.seq (by kernel_rfl) ?_
            refine J.seq (by kernel_rfl) ?_
            refine J.region (by kernel_rfl) ?_
            refine O.pure 1 [] [1, 7, 12] [] (fr' := [(1, .slice h0.1 a1.length h0.2), (7, .slice p11_3.1 x11_3.1.length p11_3.2), (12, .int .i64 0)]) (bx' := []) (by kernel_rfl) ?_
            refine O.nil (by kernel_rfl) ?_
            refine J.block (id := 4) (by kernel_rfl) ?_
            refine J.loopI (σ := Int) (γ := Unit) (f := fun m_ s_ => haywainlaw05_BoxStays.l31 K a1 x11_3 m_ s_) (fun s31 g31 => [(1, .slice h0.1 a1.length h0.2), (7, .slice p11_3.1 x11_3.1.length p11_3.2), (12, .int .i64 s31)]) (fun s31 g31 => St X w [] [] [] [] [Rd kd40 h0.1 h0.2 a1, Rd kd40 p11_3.1 p11_3.2 x11_3.1]) K 0 () (by kernel_rfl) H (fun _ => rfl) (fun m_ s31 H ih31 g31 => ?_) (fun h_ => ?_)
            · unfold haywainlaw05_BoxStays.l31 at H
              refine J.seq (by kernel_rfl) ?_
              refine J.seq (by kernel_rfl) ?_
              refine J.region (by kernel_rfl) ?_
              refine O.pure 4 [] [1, 7, 12, 126] [] (fr' := [(1, .slice h0.1 a1.length h0.2), (7, .slice p11_3.1 x11_3.1.length p11_3.2), (12, .int .i64 s31), (126, .bool (decide (s31 < (a1.length : Int))))]) (bx' := []) (by kernel_rfl) ?_
              refine O.nil (by kernel_rfl) ?_
              rcases condE H with ⟨hc36, H⟩ | ⟨hc36, H⟩
              · refine J.condT (x := .tmp 126) (t := (decide (s31 < (a1.length : Int)))) (by kernel_rfl) (by kernel_rfl) hc36 ?_
                refine J.skip (by kernel_rfl) ?_
                refine J.seq (by kernel_rfl) ?_
                refine J.block (id := 5) (by kernel_rfl) ?_
                refine J.seq (by kernel_rfl) ?_
                obtain ⟨x23_3, hx23_3, H⟩ := bindE H
                obtain ⟨hx23_3a, hx23_3⟩ := idxE hx23_3
                obtain ⟨x23_6, hx23_6, H⟩ := bindE H
                refine J.region (by kernel_rfl) ?_
                refine O.pure 3 [] [1, 7, 12, 130, 131, 132] [] (fr' := [(1, .slice h0.1 a1.length h0.2), (7, .slice p11_3.1 x11_3.1.length p11_3.2), (12, .int .i64 s31), (130, .slice p11_3.1 x11_3.1.length p11_3.2), (131, .slice h0.1 a1.length h0.2), (132, .int .i64 s31)]) (bx' := []) (by kernel_rfl) ?_
                refine O.open (d := kd40) (h := h0) (i := s31) 0 rfl hx23_3 (op40 _) (fun p23_3 hp23_3A => ?_)
                refine O.q (v := .pointer (some ⟨p23_3.1, p23_3.2.1 + s31.toNat * 2, none⟩)) (some 133) (Qu.idx (t := 22) (x := .tmp 131) (y := .tmp 132) (c := h0.2) (kk := .i64) (sz := 2) (by kernel_rfl) (by kernel_rfl) (by kernel_rfl) (by kernel_rfl) hx23_3a (idx_lt hx23_3) hp23_3A) (by kernel_rfl) ?_
                refine O.pure 2 [(0, 0)] [1, 7, 12, 130, 135] [p23_3.1, p23_3.2.1 + s31.toNat * 2] (fr' := [(1, .slice h0.1 a1.length h0.2), (7, .slice p11_3.1 x11_3.1.length p11_3.2), (12, .int .i64 s31), (130, .slice p11_3.1 x11_3.1.length p11_3.2), (135, .int .i64 x23_3.f0)]) (bx' := []) (by kernel_rfl) ?_
                refine O.e (some 136) (Ev.call0 (xs := [.tmp 130, .tmp 135]) [1] (by kernel_rfl) (by kernel_rfl) (fun w hS => haywainref05_At.con K x11_3.1 x23_3.f0 p11_3  _ _ w hS hx23_6)) (by kernel_rfl) (fun _ => ?_)
                refine O.pure 5 [] [1, 7, 12, 14] [] (fr' := [(1, .slice h0.1 a1.length h0.2), (7, .slice p11_3.1 x11_3.1.length p11_3.2), (12, .int .i64 s31), (14, .bool x23_6.2)]) (bx' := []) (by kernel_rfl) ?_
                refine O.nil (by kernel_rfl) ?_
                refine J.seq (by kernel_rfl) ?_
                refine J.region (by kernel_rfl) ?_
                refine O.pure 2 [] [1, 7, 12, 140] [] (fr' := [(1, .slice h0.1 a1.length h0.2), (7, .slice p11_3.1 x11_3.1.length p11_3.2), (12, .int .i64 s31), (140, .bool (!x23_6.2))]) (bx' := []) (by kernel_rfl) ?_
                refine O.nil (by kernel_rfl) ?_
                rcases condE H with ⟨hc37, H⟩ | ⟨hc37, H⟩
                · refine J.condT (x := .tmp 140) (t := (!x23_6.2)) (by kernel_rfl) (by kernel_rfl) hc37 ?_
                  refine J.seq (by kernel_rfl) ?_
                  refine J.region (by kernel_rfl) ?_
                  refine O.pure 1 [] [4] [] (fr' := [(4, .bool false)]) (bx' := []) (by kernel_rfl) ?_
                  refine O.nil (by kernel_rfl) ?_
                  obtain rfl := Option.some.inj H
                  exact J.doneS [] [] [] [] [] () (vs := [.bool false]) (by kernel_rfl) (by kernel_rfl) (by kernel_rfl) (by kernel_rfl) (by kernel_rfl) (by decide)
                · refine J.condF (x := .tmp 140) (t := (!x23_6.2)) (by kernel_rfl) (by kernel_rfl) hc37 ?_
                  refine J.skip (by kernel_rfl) ?_
                  refine J.out ?_
                  refine J.region (by kernel_rfl) ?_
                  refine O.pure 3 [] [1, 7, 12] [] (fr' := [(1, .slice h0.1 a1.length h0.2), (7, .slice p11_3.1 x11_3.1.length p11_3.2), (12, .int .i64 (IntKind.wrap .i64 (s31 + 1)))]) (bx' := []) (by kernel_rfl) ?_
                  refine O.nil (by kernel_rfl) ?_
                  exact J.conv2 [1, 7, 12] [0, 1] [] [] (by kernel_rfl) (by kernel_rfl) (by kernel_rfl) (by kernel_rfl) (by decide) (ih31 (IntKind.wrap .i64 (s31 + 1)) () H)
              · refine J.condF (x := .tmp 126) (t := (decide (s31 < (a1.length : Int)))) (by kernel_rfl) (by kernel_rfl) hc36 ?_
                refine J.exit (id := 4) (by kernel_rfl) rfl ?_
                refine J.seq (by kernel_rfl) ?_
                obtain ⟨x26_0, hx26_0, H⟩ := bindE H
                refine J.region (by kernel_rfl) ?_
                refine O.e (some 141) (Ev.call0 (xs := []) [] (by kernel_rfl) (by kernel_rfl) (fun w hS => haywainlaw05_knows.con K  _ _ w hS hx26_0)) (by kernel_rfl) (fun _ => ?_)
                refine O.pure 1 [] [4] [] (fr' := [(4, .bool x26_0)]) (bx' := []) (by kernel_rfl) ?_
                refine O.nil (by kernel_rfl) ?_
                obtain rfl := Option.some.inj H
                exact J.doneS [] [] [] [] [] () (vs := [.bool x26_0]) (by kernel_rfl) (by kernel_rfl) (by kernel_rfl) (by kernel_rfl) (by kernel_rfl) (by decide)
            · exact J.conv2 [1, 7, 12] [0, 1] [] [] (by kernel_rfl) (by kernel_rfl) (by kernel_rfl) (by kernel_rfl) (by decide) h_
          · refine J.block (id := 2) (by kernel_rfl) ?_
            refine J.loopI (σ := Int) (γ := Unit) (f := fun m_ s_ => haywainlaw05_BoxStays.l38 K a1 x11_3 m_ s_) (fun s38 g38 => [(1, .slice h0.1 a1.length h0.2), (7, .slice p11_3.1 x11_3.1.length p11_3.2), (9, .int .i64 s38)]) (fun s38 g38 => St X w [] [] [] [] [Rd kd40 h0.1 h0.2 a1, Rd kd40 p11_3.1 p11_3.2 x11_3.1]) K 0 () (by kernel_rfl) H (fun _ => rfl) (fun m_ s38 H ih38 g38 => ?_) (fun h_ => ?_)
            · unfold haywainlaw05_BoxStays.l38 at H
              refine J.seq (by kernel_rfl) ?_
              refine J.seq (by kernel_rfl) ?_
              refine J.region (by kernel_rfl) ?_
              refine O.pure 4 [] [1, 7, 9, 90] [] (fr' := [(1, .slice h0.1 a1.length h0.2), (7, .slice p11_3.1 x11_3.1.length p11_3.2), (9, .int .i64 s38), (90, .bool (decide (s38 < (x11_3.1.length : Int))))]) (bx' := []) (by kernel_rfl) ?_
              refine O.nil (by kernel_rfl) ?_
              rcases condE H with ⟨hc45, H⟩ | ⟨hc45, H⟩
              · refine J.condT (x := .tmp 90) (t := (decide (s38 < (x11_3.1.length : Int)))) (by kernel_rfl) (by kernel_rfl) hc45 ?_
                refine J.skip (by kernel_rfl) ?_
                refine J.seq (by kernel_rfl) ?_
                refine J.block (id := 3) (by kernel_rfl) ?_
                refine J.seq (by kernel_rfl) ?_
                obtain ⟨x17_3, hx17_3, H⟩ := bindE H
                obtain ⟨hx17_3a, hx17_3⟩ := idxE hx17_3
                obtain ⟨x17_6, hx17_6, H⟩ := bindE H
                refine J.region (by kernel_rfl) ?_
                refine O.pure 3 [] [1, 7, 9, 94, 95, 96] [] (fr' := [(1, .slice h0.1 a1.length h0.2), (7, .slice p11_3.1 x11_3.1.length p11_3.2), (9, .int .i64 s38), (94, .slice h0.1 a1.length h0.2), (95, .slice p11_3.1 x11_3.1.length p11_3.2), (96, .int .i64 s38)]) (bx' := []) (by kernel_rfl) ?_
                refine O.open (d := kd40) (h := p11_3) (i := s38) 1 rfl hx17_3 (op40 _) (fun p17_3 hp17_3A => ?_)
                refine O.q (v := .pointer (some ⟨p17_3.1, p17_3.2.1 + s38.toNat * 2, none⟩)) (some 97) (Qu.idx (t := 22) (x := .tmp 95) (y := .tmp 96) (c := p11_3.2) (kk := .i64) (sz := 2) (by kernel_rfl) (by kernel_rfl) (by kernel_rfl) (by kernel_rfl) hx17_3a (idx_lt hx17_3) hp17_3A) (by kernel_rfl) ?_
                refine O.pure 2 [(0, 0)] [1, 7, 9, 94, 99] [p17_3.1, p17_3.2.1 + s38.toNat * 2] (fr' := [(1, .slice h0.1 a1.length h0.2), (7, .slice p11_3.1 x11_3.1.length p11_3.2), (9, .int .i64 s38), (94, .slice h0.1 a1.length h0.2), (99, .int .i64 x17_3.f0)]) (bx' := []) (by kernel_rfl) ?_
                refine O.e (some 100) (Ev.call0 (xs := [.tmp 94, .tmp 99]) [0] (by kernel_rfl) (by kernel_rfl) (fun w hS => haywainref05_At.con K a1 x17_3.f0 h0  _ _ w hS hx17_6)) (by kernel_rfl) (fun _ => ?_)
                refine O.pure 5 [] [1, 7, 9, 11] [] (fr' := [(1, .slice h0.1 a1.length h0.2), (7, .slice p11_3.1 x11_3.1.length p11_3.2), (9, .int .i64 s38), (11, .bool x17_6.2)]) (bx' := []) (by kernel_rfl) ?_
                refine O.nil (by kernel_rfl) ?_
                refine J.seq (by kernel_rfl) ?_
                rcases condE H with ⟨hc46, H⟩ | ⟨hc46, H⟩
                · refine J.drawS (by kernel_rfl) [(0, some 103, .bool x17_6.2), (2, some 105, .bool true), (3, some 106, undef), (4, some 107, undef), (5, some 108, undef), (6, some 109, undef), (7, some 110, undef), (8, some 111, undef), (9, some 112, undef), (10, some 113, undef), (11, some 114, undef), (12, some 115, undef), (13, some 116, undef), (14, some 117, undef), (15, some 118, undef), (16, some 119, undef), (17, some 120, undef), (18, some 121, undef), (19, some 122, .bool true), (1, some 104, .bool true)] ([0, 2, 3, 4, 5, 6, 7, 8, 9, 10, 11, 12, 13, 14, 15, 16, 17, 18, 19] ++ [1]) (by kernel_rfl) ?_
                  refine D.fin (fr' := [(1, .slice h0.1 a1.length h0.2), (7, .slice p11_3.1 x11_3.1.length p11_3.2), (9, .int .i64 s38), (106, undef), (107, undef), (108, undef), (109, undef), (110, undef), (111, undef), (112, undef), (113, undef), (114, undef), (115, undef), (116, undef), (117, undef), (118, undef), (119, undef), (120, undef), (121, undef), (122, .bool true)]) [0, 2, 3, 4, 5, 6, 7, 8, 9, 10, 11, 12, 13, 14, 15, 16, 17, 18, 19] [1] [] [] [1, 7, 9, 106, 107, 108, 109, 110, 111, 112, 113, 114, 115, 116, 117, 118, 119, 120, 121, 122] (by kernel_rfl) (by kernel_rfl) (⟨QuAt.mk (v := .bool true) (some 104) (by kernel_rfl) (by kernel_rfl) (Qu.eqv (u := .bool (!x17_6.2)) (v := .bool true) (0, 0) [] (by kernel_rfl) (congrArg Value.bool hc46)), trivial⟩) (by kernel_rfl) ?_
                  refine J.cond (o := .tmp 122) true (by kernel_rfl) (by kernel_rfl) ?_
                  refine J.seq (by kernel_rfl) ?_
                  refine J.region (by kernel_rfl) ?_
                  refine O.pure 1 [] [4] [] (fr' := [(4, .bool false)]) (bx' := []) (by kernel_rfl) ?_
                  refine O.nil (by kernel_rfl) ?_
                  obtain rfl := Option.some.inj H
                  obtain rfl := hj19.2 _ rfl
                  exact J.doneS [] [] [] [] [] () (vs := [.bool false]) (by kernel_rfl) (by kernel_rfl) (by kernel_rfl) (by kernel_rfl) (by kernel_rfl) (by decide)
                · rcases condE H with ⟨hc47, H⟩ | ⟨hc47, H⟩
                  · obtain ⟨x18_8, hx18_8, H⟩ := bindE H
                    obtain ⟨hx18_8a, hx18_8⟩ := idxE hx18_8
                    obtain ⟨x18_14, hx18_14, H⟩ := bindE H
                    obtain ⟨hx18_14a, hx18_14⟩ := idxE hx18_14
                    refine J.open (d := kd40) (h := p11_3) (i := s38) 1 rfl hx18_8 (op40 _) (fun p18_8 hp18_8A => ?_)
                    refine J.open (d := kd40) (h := p11_3) (i := (IntKind.wrap .i64 (s38 - 1))) 1 rfl hx18_14 (op40 _) (fun p18_14 hp18_14A => ?_)
                    refine J.drawS (by kernel_rfl) [(0, some 103, .bool x17_6.2), (2, some 105, .bool false), (3, some 106, .int .i64 s38), (5, some 108, .bool true), (6, some 109, .slice p11_3.1 x11_3.1.length p11_3.2), (7, some 110, .int .i64 s38), (9, some 112, .pointer (some ⟨p18_8.1, p18_8.2.1 + s38.toNat * 2, none⟩)), (10, some 113, .int .i64 x18_8.f0), (11, some 114, .slice p11_3.1 x11_3.1.length p11_3.2), (12, some 115, .int .i64 s38), (13, some 116, .int .i64 (IntKind.wrap .i64 (s38 - 1))), (15, some 118, .pointer (some ⟨p18_14.1, p18_14.2.1 + (IntKind.wrap .i64 (s38 - 1)).toNat * 2, none⟩)), (16, some 119, .int .i64 x18_14.f0), (17, some 120, .bool (decide (x18_8.f0 ≤ x18_14.f0))), (18, some 121, .bool (decide (x18_8.f0 ≤ x18_14.f0))), (19, some 122, .bool (decide (x18_8.f0 ≤ x18_14.f0))), (1, some 104, .bool false), (4, some 107, .bool true), (8, some 111, .pointer (some ⟨p18_8.1, p18_8.2.1 + s38.toNat * 2, none⟩)), (14, some 117, .pointer (some ⟨p18_14.1, p18_14.2.1 + (IntKind.wrap .i64 (s38 - 1)).toNat * 2, none⟩))] ([0, 2, 3, 5, 6, 7, 9, 10, 11, 12, 13, 15, 16, 17, 18, 19] ++ [1, 4, 8, 14]) (by kernel_rfl) ?_
                    refine D.fin (fr' := [(1, .slice h0.1 a1.length h0.2), (7, .slice p11_3.1 x11_3.1.length p11_3.2), (9, .int .i64 s38), (106, .int .i64 s38), (107, .bool true), (108, .bool true), (109, .slice p11_3.1 x11_3.1.length p11_3.2), (110, .int .i64 s38), (111, .pointer (some ⟨p18_8.1, p18_8.2.1 + s38.toNat * 2, none⟩)), (112, .pointer (some ⟨p18_8.1, p18_8.2.1 + s38.toNat * 2, none⟩)), (113, .int .i64 x18_8.f0), (114, .slice p11_3.1 x11_3.1.length p11_3.2), (115, .int .i64 s38), (116, .int .i64 (IntKind.wrap .i64 (s38 - 1))), (117, .pointer (some ⟨p18_14.1, p18_14.2.1 + (IntKind.wrap .i64 (s38 - 1)).toNat * 2, none⟩)), (118, .pointer (some ⟨p18_14.1, p18_14.2.1 + (IntKind.wrap .i64 (s38 - 1)).toNat * 2, none⟩)), (119, .int .i64 x18_14.f0), (120, .bool (decide (x18_8.f0 ≤ x18_14.f0))), (121, .bool (decide (x18_8.f0 ≤ x18_14.f0))), (122, .bool (decide (x18_8.f0 ≤ x18_14.f0)))]) [0, 2, 3, 5, 6, 7, 9, 10, 11, 12, 13, 15, 16, 17, 18, 19] [1, 4, 8, 14] [(1, 0), (0, 0)] [p18_8.1, p18_8.2.1 + s38.toNat * 2, p18_14.1, p18_14.2.1 + (IntKind.wrap .i64 (s38 - 1)).toNat * 2] [1, 7, 9, 106, 107, 108, 109, 110, 111, 112, 113, 114, 115, 116, 117, 118, 119, 120, 121, 122] (by kernel_rfl) (by kernel_rfl) (⟨QuAt.mk (v := .bool false) (some 104) (by kernel_rfl) (by kernel_rfl) (Qu.eqv (u := .bool (!x17_6.2)) (v := .bool false) (0, 0) [] (by kernel_rfl) (congrArg Value.bool hc46)), QuAt.mk (v := .bool true) (some 107) (by kernel_rfl) (by kernel_rfl) (Qu.eqv (u := .bool (decide (s38 > 0))) (v := .bool true) (0, 0) [] (by kernel_rfl) (congrArg Value.bool hc47)), QuAt.mk (v := .pointer (some ⟨p18_8.1, p18_8.2.1 + s38.toNat * 2, none⟩)) (some 111) (by kernel_rfl) (by kernel_rfl) (Qu.idx (t := 22) (x := .tmp 109) (y := .tmp 110) (c := p11_3.2) (kk := .i64) (sz := 2) (by kernel_rfl) (by kernel_rfl) (by kernel_rfl) (by kernel_rfl) hx18_8a (idx_lt hx18_8) hp18_8A), QuAt.mk (v := .pointer (some ⟨p18_14.1, p18_14.2.1 + (IntKind.wrap .i64 (s38 - 1)).toNat * 2, none⟩)) (some 117) (by kernel_rfl) (by kernel_rfl) (Qu.idx (t := 22) (x := .tmp 114) (y := .tmp 116) (c := p11_3.2) (kk := .i64) (sz := 2) (by kernel_rfl) (by kernel_rfl) (by kernel_rfl) (by kernel_rfl) hx18_14a (idx_lt hx18_14) hp18_14A), trivial⟩) (by kernel_rfl) ?_
                    rcases condE H with ⟨hc48, H⟩ | ⟨hc48, H⟩
                    · refine J.condT (x := .tmp 122) (t := (decide (x18_8.f0 ≤ x18_14.f0))) (by kernel_rfl) (by kernel_rfl) hc48 ?_
                      refine J.seq (by kernel_rfl) ?_
                      refine J.region (by kernel_rfl) ?_
                      refine O.pure 1 [] [4] [] (fr' := [(4, .bool false)]) (bx' := []) (by kernel_rfl) ?_
                      refine O.nil (by kernel_rfl) ?_
                      obtain rfl := Option.some.inj H
                      obtain rfl := hj19.2 _ rfl
                      exact J.doneS [] [] [] [] [] () (vs := [.bool false]) (by kernel_rfl) (by kernel_rfl) (by kernel_rfl) (by kernel_rfl) (by kernel_rfl) (by decide)
                    · refine J.condF (x := .tmp 122) (t := (decide (x18_8.f0 ≤ x18_14.f0))) (by kernel_rfl) (by kernel_rfl) hc48 ?_
                      refine J.skip (by kernel_rfl) ?_
                      refine J.out ?_
                      refine J.region (by kernel_rfl) ?_
                      refine O.pure 3 [] [1, 7, 9, 106, 107, 108, 109, 110, 111, 112, 113, 114, 115, 116, 117, 118, 119, 120, 121] [] (fr' := [(1, .slice h0.1 a1.length h0.2), (7, .slice p11_3.1 x11_3.1.length p11_3.2), (9, .int .i64 (IntKind.wrap .i64 (s38 + 1))), (106, .int .i64 s38), (107, .bool true), (108, .bool true), (109, .slice p11_3.1 x11_3.1.length p11_3.2), (110, .int .i64 s38), (111, .pointer (some ⟨p18_8.1, p18_8.2.1 + s38.toNat * 2, none⟩)), (112, .pointer (some ⟨p18_8.1, p18_8.2.1 + s38.toNat * 2, none⟩)), (113, .int .i64 x18_8.f0), (114, .slice p11_3.1 x11_3.1.length p11_3.2), (115, .int .i64 s38), (116, .int .i64 (IntKind.wrap .i64 (s38 - 1))), (117, .pointer (some ⟨p18_14.1, p18_14.2.1 + (IntKind.wrap .i64 (s38 - 1)).toNat * 2, none⟩)), (118, .pointer (some ⟨p18_14.1, p18_14.2.1 + (IntKind.wrap .i64 (s38 - 1)).toNat * 2, none⟩)), (119, .int .i64 x18_14.f0), (120, .bool (decide (x18_8.f0 ≤ x18_14.f0))), (121, .bool (decide (x18_8.f0 ≤ x18_14.f0)))]) (bx' := []) (by kernel_rfl) ?_
                      refine O.nil (by kernel_rfl) ?_
                      exact J.conv2 [1, 7, 9] [0, 1] [] [] (by kernel_rfl) (by kernel_rfl) (by kernel_rfl) (by kernel_rfl) (by decide) (ih38 (IntKind.wrap .i64 (s38 + 1)) () H)
                  · refine J.drawS (by kernel_rfl) [(0, some 103, .bool x17_6.2), (2, some 105, .bool false), (3, some 106, .int .i64 s38), (5, some 108, .bool false), (6, some 109, undef), (7, some 110, undef), (8, some 111, undef), (9, some 112, undef), (10, some 113, undef), (11, some 114, undef), (12, some 115, undef), (13, some 116, undef), (14, some 117, undef), (15, some 118, undef), (16, some 119, undef), (17, some 120, undef), (18, some 121, .bool false), (19, some 122, .bool false), (1, some 104, .bool false), (4, some 107, .bool false)] ([0, 2, 3, 5, 6, 7, 8, 9, 10, 11, 12, 13, 14, 15, 16, 17, 18, 19] ++ [1, 4]) (by kernel_rfl) ?_
                    refine D.fin (fr' := [(1, .slice h0.1 a1.length h0.2), (7, .slice p11_3.1 x11_3.1.length p11_3.2), (9, .int .i64 s38), (106, .int .i64 s38), (107, .bool false), (108, .bool false), (109, undef), (110, undef), (111, undef), (112, undef), (113, undef), (114, undef), (115, undef), (116, undef), (117, undef), (118, undef), (119, undef), (120, undef), (121, .bool false), (122, .bool false)]) [0, 2, 3, 5, 6, 7, 8, 9, 10, 11, 12, 13, 14, 15, 16, 17, 18, 19] [1, 4] [] [] [1, 7, 9, 106, 107, 108, 109, 110, 111, 112, 113, 114, 115, 116, 117, 118, 119, 120, 121, 122] (by kernel_rfl) (by kernel_rfl) (⟨QuAt.mk (v := .bool false) (some 104) (by kernel_rfl) (by kernel_rfl) (Qu.eqv (u := .bool (!x17_6.2)) (v := .bool false) (0, 0) [] (by kernel_rfl) (congrArg Value.bool hc46)), QuAt.mk (v := .bool false) (some 107) (by kernel_rfl) (by kernel_rfl) (Qu.eqv (u := .bool (decide (s38 > 0))) (v := .bool false) (0, 0) [] (by kernel_rfl) (congrArg Value.bool hc47)), trivial⟩) (by kernel_rfl) ?_
                    refine J.cond (o := .tmp 122) false (by kernel_rfl) (by kernel_rfl) ?_
                    refine J.skip (by kernel_rfl) ?_
                    refine J.out ?_
                    refine J.region (by kernel_rfl) ?_
                    refine O.pure 3 [] [1, 7, 9, 106, 107, 108, 109, 110, 111, 112, 113, 114, 115, 116, 117, 118, 119, 120, 121] [] (fr' := [(1, .slice h0.1 a1.length h0.2), (7, .slice p11_3.1 x11_3.1.length p11_3.2), (9, .int .i64 (IntKind.wrap .i64 (s38 + 1))), (106, .int .i64 s38), (107, .bool false), (108, .bool false), (109, undef), (110, undef), (111, undef), (112, undef), (113, undef), (114, undef), (115, undef), (116, undef), (117, undef), (118, undef), (119, undef), (120, undef), (121, .bool false)]) (bx' := []) (by kernel_rfl) ?_
                    refine O.nil (by kernel_rfl) ?_
                    exact J.conv2 [1, 7, 9] [0, 1] [] [] (by kernel_rfl) (by kernel_rfl) (by kernel_rfl) (by kernel_rfl) (by decide) (ih38 (IntKind.wrap .i64 (s38 + 1)) () H)
              · refine J.condF (x := .tmp 90) (t := (decide (s38 < (x11_3.1.length : Int)))) (by kernel_rfl) (by kernel_rfl) hc45 ?_
                refine J.exit (id := 2) (by kernel_rfl) rfl ?_
                obtain rfl := Option.some.inj H
                exact J.conv2 [1, 7] [0, 1] [] [] (by kernel_rfl) (by kernel_rfl) (by kernel_rfl) (by kernel_rfl) (by decide) (hj19.1 _ rfl ())
            · refine J.mono (fun w hS => hS.freezeH (h := p11_3) (xs := x11_3.1)) ?_
              exact J.conv2 [1, 7, 9] [1, 0] [] [] (by kernel_rfl) (by kernel_rfl) (by kernel_rfl) (by kernel_rfl) (by decide) h_
      · refine J.block (id := 0) (by kernel_rfl) ?_
        refine J.loopI (σ := Int) (γ := Unit) (f := fun m_ s_ => haywainlaw05_BoxStays.l49 K x3_2 m_ s_) (fun s49 g49 => [(0, .int .i64 a0), (1, .slice h0.1 a1.length h0.2), (5, .slice p3_2.1 x3_2.length p3_2.2), (6, .int .i64 s49)]) (fun s49 g49 => St X w [] [] [] [] [Rd kd40 h0.1 h0.2 a1, Rd kd40 p3_2.1 p3_2.2 x3_2]) K 1 () (by kernel_rfl) H (fun _ => rfl) (fun m_ s49 H ih49 g49 => ?_) (fun h_ => ?_)
        · unfold haywainlaw05_BoxStays.l49 at H
          refine J.seq (by kernel_rfl) ?_
          refine J.seq (by kernel_rfl) ?_
          refine J.region (by kernel_rfl) ?_
          refine O.pure 4 [] [0, 1, 5, 6, 29] [] (fr' := [(0, .int .i64 a0), (1, .slice h0.1 a1.length h0.2), (5, .slice p3_2.1 x3_2.length p3_2.2), (6, .int .i64 s49), (29, .bool (decide (s49 < (x3_2.length : Int))))]) (bx' := []) (by kernel_rfl) ?_
          refine O.nil (by kernel_rfl) ?_
          rcases condE H with ⟨hc58, H⟩ | ⟨hc58, H⟩
          · refine J.condT (x := .tmp 29) (t := (decide (s49 < (x3_2.length : Int)))) (by kernel_rfl) (by kernel_rfl) hc58 ?_
            refine J.skip (by kernel_rfl) ?_
            refine J.seq (by kernel_rfl) ?_
            refine J.block (id := 1) (by kernel_rfl) ?_
            refine J.seq (by kernel_rfl) ?_
            obtain ⟨x9_2, hx9_2, H⟩ := bindE H
            obtain ⟨hx9_2a, hx9_2⟩ := idxE hx9_2
            obtain ⟨x9_8, hx9_8, H⟩ := bindE H
            obtain ⟨hx9_8a, hx9_8⟩ := idxE hx9_8
            rcases condE H with ⟨hc59, H⟩ | ⟨hc59, H⟩
            · refine J.open (d := kd40) (h := p3_2) (i := s49) 1 rfl hx9_2 (op40 _) (fun p9_2 hp9_2A => ?_)
              refine J.open (d := kd40) (h := p3_2) (i := (IntKind.wrap .i64 (s49 - 1))) 1 rfl hx9_8 (op40 _) (fun p9_8 hp9_8A => ?_)
              refine J.drawS (by kernel_rfl) [(0, some 32, .slice p3_2.1 x3_2.length p3_2.2), (1, some 33, .int .i64 s49), (3, some 35, .pointer (some ⟨p9_2.1, p9_2.2.1 + s49.toNat * 2, none⟩)), (4, some 36, .int .i64 x9_2.f0), (5, some 37, .slice p3_2.1 x3_2.length p3_2.2), (6, some 38, .int .i64 s49), (7, some 39, .int .i64 (IntKind.wrap .i64 (s49 - 1))), (9, some 41, .pointer (some ⟨p9_8.1, p9_8.2.1 + (IntKind.wrap .i64 (s49 - 1)).toNat * 2, none⟩)), (10, some 42, .int .i64 x9_8.f0), (12, some 44, .bool true), (13, some 45, undef), (14, some 46, undef), (15, some 47, undef), (16, some 48, undef), (17, some 49, undef), (18, some 50, undef), (19, some 51, undef), (20, some 52, undef), (21, some 53, undef), (22, some 54, undef), (23, some 55, undef), (24, some 56, undef), (25, some 57, undef), (26, some 58, undef), (27, some 59, undef), (28, some 60, undef), (29, some 61, undef), (30, some 62, undef), (31, some 63, undef), (32, some 64, undef), (33, some 65, undef), (34, some 66, undef), (35, some 67, undef), (36, some 68, undef), (37, some 69, undef), (38, some 70, undef), (39, some 71, .bool true), (2, some 34, .pointer (some ⟨p9_2.1, p9_2.2.1 + s49.toNat * 2, none⟩)), (8, some 40, .pointer (some ⟨p9_8.1, p9_8.2.1 + (IntKind.wrap .i64 (s49 - 1)).toNat * 2, none⟩)), (11, some 43, .bool true)] ([0, 1, 3, 4, 5, 6, 7, 9, 10, 12, 13, 14, 15, 16, 17, 18, 19, 20, 21, 22, 23, 24, 25, 26, 27, 28, 29, 30, 31, 32, 33, 34, 35, 36, 37, 38, 39] ++ [2, 8, 11]) (by kernel_rfl) ?_
              refine D.fin (fr' := [(0, .int .i64 a0), (1, .slice h0.1 a1.length h0.2), (5, .slice p3_2.1 x3_2.length p3_2.2), (6, .int .i64 s49), (45, undef), (46, undef), (47, undef), (48, undef), (49, undef), (50, undef), (51, undef), (52, undef), (53, undef), (54, undef), (55, undef), (56, undef), (57, undef), (58, undef), (59, undef), (60, undef), (61, undef), (62, undef), (63, undef), (64, undef), (65, undef), (66, undef), (67, undef), (68, undef), (69, undef), (70, undef), (71, .bool true)]) [0, 1, 3, 4, 5, 6, 7, 9, 10, 12, 13, 14, 15, 16, 17, 18, 19, 20, 21, 22, 23, 24, 25, 26, 27, 28, 29, 30, 31, 32, 33, 34, 35, 36, 37, 38, 39] [2, 8, 11] [(1, 0), (0, 0)] [p9_2.1, p9_2.2.1 + s49.toNat * 2, p9_8.1, p9_8.2.1 + (IntKind.wrap .i64 (s49 - 1)).toNat * 2] [0, 1, 5, 6, 45, 46, 47, 48, 49, 50, 51, 52, 53, 54, 55, 56, 57, 58, 59, 60, 61, 62, 63, 64, 65, 66, 67, 68, 69, 70, 71] (by kernel_rfl) (by kernel_rfl) (⟨QuAt.mk (v := .pointer (some ⟨p9_2.1, p9_2.2.1 + s49.toNat * 2, none⟩)) (some 34) (by kernel_rfl) (by kernel_rfl) (Qu.idx (t := 22) (x := .tmp 32) (y := .tmp 33) (c := p3_2.2) (kk := .i64) (sz := 2) (by kernel_rfl) (by kernel_rfl) (by kernel_rfl) (by kernel_rfl) hx9_2a (idx_lt hx9_2) hp9_2A), QuAt.mk (v := .pointer (some ⟨p9_8.1, p9_8.2.1 + (IntKind.wrap .i64 (s49 - 1)).toNat * 2, none⟩)) (some 40) (by kernel_rfl) (by kernel_rfl) (Qu.idx (t := 22) (x := .tmp 37) (y := .tmp 39) (c := p3_2.2) (kk := .i64) (sz := 2) (by kernel_rfl) (by kernel_rfl) (by kernel_rfl) (by kernel_rfl) hx9_8a (idx_lt hx9_8) hp9_8A), QuAt.mk (v := .bool true) (some 43) (by kernel_rfl) (by kernel_rfl) (Qu.eqv (u := .bool (decide (x9_2.f0 < x9_8.f0))) (v := .bool true) (0, 0) [] (by kernel_rfl) (congrArg Value.bool hc59)), trivial⟩) (by kernel_rfl) ?_
              refine J.cond (o := .tmp 71) true (by kernel_rfl) (by kernel_rfl) ?_
              refine J.seq (by kernel_rfl) ?_
              refine J.region (by kernel_rfl) ?_
              refine O.pure 1 [] [4] [] (fr' := [(4, .bool false)]) (bx' := []) (by kernel_rfl) ?_
              refine O.nil (by kernel_rfl) ?_
              obtain rfl := Option.some.inj H
              obtain rfl := hj3.2 _ rfl
              exact J.doneS [] [] [] [] [] () (vs := [.bool false]) (by kernel_rfl) (by kernel_rfl) (by kernel_rfl) (by kernel_rfl) (by kernel_rfl) (by decide)
            · obtain ⟨x9_15, hx9_15, H⟩ := bindE H
              obtain ⟨hx9_15a, hx9_15⟩ := idxE hx9_15
              obtain ⟨x9_21, hx9_21, H⟩ := bindE H
              obtain ⟨hx9_21a, hx9_21⟩ := idxE hx9_21
              rcases condE H with ⟨hc60, H⟩ | ⟨hc60, H⟩
              · obtain ⟨x9_28, hx9_28, H⟩ := bindE H
                obtain ⟨hx9_28a, hx9_28⟩ := idxE hx9_28
                obtain ⟨x9_34, hx9_34, H⟩ := bindE H
                obtain ⟨hx9_34a, hx9_34⟩ := idxE hx9_34
                refine J.open (d := kd40) (h := p3_2) (i := s49) 1 rfl hx9_2 (op40 _) (fun p9_2 hp9_2A => ?_)
                refine J.open (d := kd40) (h := p3_2) (i := (IntKind.wrap .i64 (s49 - 1))) 1 rfl hx9_8 (op40 _) (fun p9_8 hp9_8A => ?_)
                refine J.open (d := kd40) (h := p3_2) (i := s49) 1 rfl hx9_15 (op40 _) (fun p9_15 hp9_15A => ?_)
                refine J.open (d := kd40) (h := p3_2) (i := (IntKind.wrap .i64 (s49 - 1))) 1 rfl hx9_21 (op40 _) (fun p9_21 hp9_21A => ?_)
                refine J.open (d := kd40) (h := p3_2) (i := s49) 1 rfl hx9_28 (op40 _) (fun p9_28 hp9_28A => ?_)
                refine J.open (d := kd40) (h := p3_2) (i := (IntKind.wrap .i64 (s49 - 1))) 1 rfl hx9_34 (op40 _) (fun p9_34 hp9_34A => ?_)
                refine J.drawS (by kernel_rfl) [(0, some 32, .slice p3_2.1 x3_2.length p3_2.2), (1, some 33, .int .i64 s49), (3, some 35, .pointer (some ⟨p9_2.1, p9_2.2.1 + s49.toNat * 2, none⟩)), (4, some 36, .int .i64 x9_2.f0), (5, some 37, .slice p3_2.1 x3_2.length p3_2.2), (6, some 38, .int .i64 s49), (7, some 39, .int .i64 (IntKind.wrap .i64 (s49 - 1))), (9, some 41, .pointer (some ⟨p9_8.1, p9_8.2.1 + (IntKind.wrap .i64 (s49 - 1)).toNat * 2, none⟩)), (10, some 42, .int .i64 x9_8.f0), (12, some 44, .bool false), (13, some 45, .slice p3_2.1 x3_2.length p3_2.2), (14, some 46, .int .i64 s49), (16, some 48, .pointer (some ⟨p9_15.1, p9_15.2.1 + s49.toNat * 2, none⟩)), (17, some 49, .int .i64 x9_15.f0), (18, some 50, .slice p3_2.1 x3_2.length p3_2.2), (19, some 51, .int .i64 s49), (20, some 52, .int .i64 (IntKind.wrap .i64 (s49 - 1))), (22, some 54, .pointer (some ⟨p9_21.1, p9_21.2.1 + (IntKind.wrap .i64 (s49 - 1)).toNat * 2, none⟩)), (23, some 55, .int .i64 x9_21.f0), (25, some 57, .bool true), (26, some 58, .slice p3_2.1 x3_2.length p3_2.2), (27, some 59, .int .i64 s49), (29, some 61, .pointer (some ⟨p9_28.1, p9_28.2.1 + s49.toNat * 2 + 1, none⟩)), (30, some 62, .int .i64 x9_28.f1), (31, some 63, .slice p3_2.1 x3_2.length p3_2.2), (32, some 64, .int .i64 s49), (33, some 65, .int .i64 (IntKind.wrap .i64 (s49 - 1))), (35, some 67, .pointer (some ⟨p9_34.1, p9_34.2.1 + (IntKind.wrap .i64 (s49 - 1)).toNat * 2 + 1, none⟩)), (36, some 68, .int .i64 x9_34.f1), (37, some 69, .bool (decide (x9_28.f1 < x9_34.f1))), (38, some 70, .bool (decide (x9_28.f1 < x9_34.f1))), (39, some 71, .bool (decide (x9_28.f1 < x9_34.f1))), (2, some 34, .pointer (some ⟨p9_2.1, p9_2.2.1 + s49.toNat * 2, none⟩)), (8, some 40, .pointer (some ⟨p9_8.1, p9_8.2.1 + (IntKind.wrap .i64 (s49 - 1)).toNat * 2, none⟩)), (11, some 43, .bool false), (15, some 47, .pointer (some ⟨p9_15.1, p9_15.2.1 + s49.toNat * 2, none⟩)), (21, some 53, .pointer (some ⟨p9_21.1, p9_21.2.1 + (IntKind.wrap .i64 (s49 - 1)).toNat * 2, none⟩)), (24, some 56, .bool true), (28, some 60, .pointer (some ⟨p9_28.1, p9_28.2.1 + s49.toNat * 2, none⟩)), (34, some 66, .pointer (some ⟨p9_34.1, p9_34.2.1 + (IntKind.wrap .i64 (s49 - 1)).toNat * 2, none⟩))] ([0, 1, 3, 4, 5, 6, 7, 9, 10, 12, 13, 14, 16, 17, 18, 19, 20, 22, 23, 25, 26, 27, 29, 30, 31, 32, 33, 35, 36, 37, 38, 39] ++ [2, 8, 11, 15, 21, 24, 28, 34]) (by kernel_rfl) ?_
                refine D.fin (fr' := [(0, .int .i64 a0), (1, .slice h0.1 a1.length h0.2), (5, .slice p3_2.1 x3_2.length p3_2.2), (6, .int .i64 s49), (45, .slice p3_2.1 x3_2.length p3_2.2), (46, .int .i64 s49), (47, .pointer (some ⟨p9_15.1, p9_15.2.1 + s49.toNat * 2, none⟩)), (48, .pointer (some ⟨p9_15.1, p9_15.2.1 + s49.toNat * 2, none⟩)), (49, .int .i64 x9_15.f0), (50, .slice p3_2.1 x3_2.length p3_2.2), (51, .int .i64 s49), (52, .int .i64 (IntKind.wrap .i64 (s49 - 1))), (53, .pointer (some ⟨p9_21.1, p9_21.2.1 + (IntKind.wrap .i64 (s49 - 1)).toNat * 2, none⟩)), (54, .pointer (some ⟨p9_21.1, p9_21.2.1 + (IntKind.wrap .i64 (s49 - 1)).toNat * 2, none⟩)), (55, .int .i64 x9_21.f0), (56, .bool true), (57, .bool true), (58, .slice p3_2.1 x3_2.length p3_2.2), (59, .int .i64 s49), (60, .pointer (some ⟨p9_28.1, p9_28.2.1 + s49.toNat * 2, none⟩)), (61, .pointer (some ⟨p9_28.1, p9_28.2.1 + s49.toNat * 2 + 1, none⟩)), (62, .int .i64 x9_28.f1), (63, .slice p3_2.1 x3_2.length p3_2.2), (64, .int .i64 s49), (65, .int .i64 (IntKind.wrap .i64 (s49 - 1))), (66, .pointer (some ⟨p9_34.1, p9_34.2.1 + (IntKind.wrap .i64 (s49 - 1)).toNat * 2, none⟩)), (67, .pointer (some ⟨p9_34.1, p9_34.2.1 + (IntKind.wrap .i64 (s49 - 1)).toNat * 2 + 1, none⟩)), (68, .int .i64 x9_34.f1), (69, .bool (decide (x9_28.f1 < x9_34.f1))), (70, .bool (decide (x9_28.f1 < x9_34.f1))), (71, .bool (decide (x9_28.f1 < x9_34.f1)))]) [0, 1, 3, 4, 5, 6, 7, 9, 10, 12, 13, 14, 16, 17, 18, 19, 20, 22, 23, 25, 26, 27, 29, 30, 31, 32, 33, 35, 36, 37, 38, 39] [2, 8, 11, 15, 21, 24, 28, 34] [(5, 0), (4, 0), (3, 0), (2, 0), (1, 1), (0, 1)] [p9_2.1, p9_2.2.1 + s49.toNat * 2, p9_8.1, p9_8.2.1 + (IntKind.wrap .i64 (s49 - 1)).toNat * 2, p9_15.1, p9_15.2.1 + s49.toNat * 2, p9_21.1, p9_21.2.1 + (IntKind.wrap .i64 (s49 - 1)).toNat * 2, p9_28.1, p9_28.2.1 + s49.toNat * 2 + 1, p9_34.1, p9_34.2.1 + (IntKind.wrap .i64 (s49 - 1)).toNat * 2 + 1] [0, 1, 5, 6, 45, 46, 47, 48, 49, 50, 51, 52, 53, 54, 55, 56, 57, 58, 59, 60, 61, 62, 63, 64, 65, 66, 67, 68, 69, 70, 71] (by kernel_rfl) (by kernel_rfl) (⟨QuAt.mk (v := .pointer (some ⟨p9_2.1, p9_2.2.1 + s49.toNat * 2, none⟩)) (some 34) (by kernel_rfl) (by kernel_rfl) (Qu.idx (t := 22) (x := .tmp 32) (y := .tmp 33) (c := p3_2.2) (kk := .i64) (sz := 2) (by kernel_rfl) (by kernel_rfl) (by kernel_rfl) (by kernel_rfl) hx9_2a (idx_lt hx9_2) hp9_2A), QuAt.mk (v := .pointer (some ⟨p9_8.1, p9_8.2.1 + (IntKind.wrap .i64 (s49 - 1)).toNat * 2, none⟩)) (some 40) (by kernel_rfl) (by kernel_rfl) (Qu.idx (t := 22) (x := .tmp 37) (y := .tmp 39) (c := p3_2.2) (kk := .i64) (sz := 2) (by kernel_rfl) (by kernel_rfl) (by kernel_rfl) (by kernel_rfl) hx9_8a (idx_lt hx9_8) hp9_8A), QuAt.mk (v := .bool false) (some 43) (by kernel_rfl) (by kernel_rfl) (Qu.eqv (u := .bool (decide (x9_2.f0 < x9_8.f0))) (v := .bool false) (0, 0) [] (by kernel_rfl) (congrArg Value.bool hc59)), QuAt.mk (v := .pointer (some ⟨p9_15.1, p9_15.2.1 + s49.toNat * 2, none⟩)) (some 47) (by kernel_rfl) (by kernel_rfl) (Qu.idx (t := 22) (x := .tmp 45) (y := .tmp 46) (c := p3_2.2) (kk := .i64) (sz := 2) (by kernel_rfl) (by kernel_rfl) (by kernel_rfl) (by kernel_rfl) hx9_15a (idx_lt hx9_15) hp9_15A), QuAt.mk (v := .pointer (some ⟨p9_21.1, p9_21.2.1 + (IntKind.wrap .i64 (s49 - 1)).toNat * 2, none⟩)) (some 53) (by kernel_rfl) (by kernel_rfl) (Qu.idx (t := 22) (x := .tmp 50) (y := .tmp 52) (c := p3_2.2) (kk := .i64) (sz := 2) (by kernel_rfl) (by kernel_rfl) (by kernel_rfl) (by kernel_rfl) hx9_21a (idx_lt hx9_21) hp9_21A), QuAt.mk (v := .bool true) (some 56) (by kernel_rfl) (by kernel_rfl) (Qu.eqv (u := .bool (x9_15.f0 == x9_21.f0)) (v := .bool true) (0, 0) [] (by kernel_rfl) (congrArg Value.bool hc60)), QuAt.mk (v := .pointer (some ⟨p9_28.1, p9_28.2.1 + s49.toNat * 2, none⟩)) (some 60) (by kernel_rfl) (by kernel_rfl) (Qu.idx (t := 22) (x := .tmp 58) (y := .tmp 59) (c := p3_2.2) (kk := .i64) (sz := 2) (by kernel_rfl) (by kernel_rfl) (by kernel_rfl) (by kernel_rfl) hx9_28a (idx_lt hx9_28) hp9_28A), QuAt.mk (v := .pointer (some ⟨p9_34.1, p9_34.2.1 + (IntKind.wrap .i64 (s49 - 1)).toNat * 2, none⟩)) (some 66) (by kernel_rfl) (by kernel_rfl) (Qu.idx (t := 22) (x := .tmp 63) (y := .tmp 65) (c := p3_2.2) (kk := .i64) (sz := 2) (by kernel_rfl) (by kernel_rfl) (by kernel_rfl) (by kernel_rfl) hx9_34a (idx_lt hx9_34) hp9_34A), trivial⟩) (by kernel_rfl) ?_
                rcases condE H with ⟨hc61, H⟩ | ⟨hc61, H⟩
                · refine J.condT (x := .tmp 71) (t := (decide (x9_28.f1 < x9_34.f1))) (by kernel_rfl) (by kernel_rfl) hc61 ?_
                  refine J.seq (by kernel_rfl) ?_
                  refine J.region (by kernel_rfl) ?_
                  refine O.pure 1 [] [4] [] (fr' := [(4, .bool false)]) (bx' := []) (by kernel_rfl) ?_
                  refine O.nil (by kernel_rfl) ?_
                  obtain rfl := Option.some.inj H
                  obtain rfl := hj3.2 _ rfl
                  exact J.doneS [] [] [] [] [] () (vs := [.bool false]) (by kernel_rfl) (by kernel_rfl) (by kernel_rfl) (by kernel_rfl) (by kernel_rfl) (by decide)
                · refine J.condF (x := .tmp 71) (t := (decide (x9_28.f1 < x9_34.f1))) (by kernel_rfl) (by kernel_rfl) hc61 ?_
                  refine J.skip (by kernel_rfl) ?_
                  refine J.out ?_
                  refine J.region (by kernel_rfl) ?_
                  refine O.pure 3 [] [0, 1, 5, 6, 45, 46, 47, 48, 49, 50, 51, 52, 53, 54, 55, 56, 57, 58, 59, 60, 61, 62, 63, 64, 65, 66, 67, 68, 69, 70] [] (fr' := [(0, .int .i64 a0), (1, .slice h0.1 a1.length h0.2), (5, .slice p3_2.1 x3_2.length p3_2.2), (6, .int .i64 (IntKind.wrap .i64 (s49 + 1))), (45, .slice p3_2.1 x3_2.length p3_2.2), (46, .int .i64 s49), (47, .pointer (some ⟨p9_15.1, p9_15.2.1 + s49.toNat * 2, none⟩)), (48, .pointer (some ⟨p9_15.1, p9_15.2.1 + s49.toNat * 2, none⟩)), (49, .int .i64 x9_15.f0), (50, .slice p3_2.1 x3_2.length p3_2.2), (51, .int .i64 s49), (52, .int .i64 (IntKind.wrap .i64 (s49 - 1))), (53, .pointer (some ⟨p9_21.1, p9_21.2.1 + (IntKind.wrap .i64 (s49 - 1)).toNat * 2, none⟩)), (54, .pointer (some ⟨p9_21.1, p9_21.2.1 + (IntKind.wrap .i64 (s49 - 1)).toNat * 2, none⟩)), (55, .int .i64 x9_21.f0), (56, .bool true), (57, .bool true), (58, .slice p3_2.1 x3_2.length p3_2.2), (59, .int .i64 s49), (60, .pointer (some ⟨p9_28.1, p9_28.2.1 + s49.toNat * 2, none⟩)), (61, .pointer (some ⟨p9_28.1, p9_28.2.1 + s49.toNat * 2 + 1, none⟩)), (62, .int .i64 x9_28.f1), (63, .slice p3_2.1 x3_2.length p3_2.2), (64, .int .i64 s49), (65, .int .i64 (IntKind.wrap .i64 (s49 - 1))), (66, .pointer (some ⟨p9_34.1, p9_34.2.1 + (IntKind.wrap .i64 (s49 - 1)).toNat * 2, none⟩)), (67, .pointer (some ⟨p9_34.1, p9_34.2.1 + (IntKind.wrap .i64 (s49 - 1)).toNat * 2 + 1, none⟩)), (68, .int .i64 x9_34.f1), (69, .bool (decide (x9_28.f1 < x9_34.f1))), (70, .bool (decide (x9_28.f1 < x9_34.f1)))]) (bx' := []) (by kernel_rfl) ?_
                  refine O.nil (by kernel_rfl) ?_
                  exact J.conv2 [0, 1, 5, 6] [0, 1] [] [] (by kernel_rfl) (by kernel_rfl) (by kernel_rfl) (by kernel_rfl) (by decide) (ih49 (IntKind.wrap .i64 (s49 + 1)) () H)
              · refine J.open (d := kd40) (h := p3_2) (i := s49) 1 rfl hx9_2 (op40 _) (fun p9_2 hp9_2A => ?_)
                refine J.open (d := kd40) (h := p3_2) (i := (IntKind.wrap .i64 (s49 - 1))) 1 rfl hx9_8 (op40 _) (fun p9_8 hp9_8A => ?_)
                refine J.open (d := kd40) (h := p3_2) (i := s49) 1 rfl hx9_15 (op40 _) (fun p9_15 hp9_15A => ?_)
                refine J.open (d := kd40) (h := p3_2) (i := (IntKind.wrap .i64 (s49 - 1))) 1 rfl hx9_21 (op40 _) (fun p9_21 hp9_21A => ?_)
                refine J.drawS (by kernel_rfl) [(0, some 32, .slice p3_2.1 x3_2.length p3_2.2), (1, some 33, .int .i64 s49), (3, some 35, .pointer (some ⟨p9_2.1, p9_2.2.1 + s49.toNat * 2, none⟩)), (4, some 36, .int .i64 x9_2.f0), (5, some 37, .slice p3_2.1 x3_2.length p3_2.2), (6, some 38, .int .i64 s49), (7, some 39, .int .i64 (IntKind.wrap .i64 (s49 - 1))), (9, some 41, .pointer (some ⟨p9_8.1, p9_8.2.1 + (IntKind.wrap .i64 (s49 - 1)).toNat * 2, none⟩)), (10, some 42, .int .i64 x9_8.f0), (12, some 44, .bool false), (13, some 45, .slice p3_2.1 x3_2.length p3_2.2), (14, some 46, .int .i64 s49), (16, some 48, .pointer (some ⟨p9_15.1, p9_15.2.1 + s49.toNat * 2, none⟩)), (17, some 49, .int .i64 x9_15.f0), (18, some 50, .slice p3_2.1 x3_2.length p3_2.2), (19, some 51, .int .i64 s49), (20, some 52, .int .i64 (IntKind.wrap .i64 (s49 - 1))), (22, some 54, .pointer (some ⟨p9_21.1, p9_21.2.1 + (IntKind.wrap .i64 (s49 - 1)).toNat * 2, none⟩)), (23, some 55, .int .i64 x9_21.f0), (25, some 57, .bool false), (26, some 58, undef), (27, some 59, undef), (28, some 60, undef), (29, some 61, undef), (30, some 62, undef), (31, some 63, undef), (32, some 64, undef), (33, some 65, undef), (34, some 66, undef), (35, some 67, undef), (36, some 68, undef), (37, some 69, undef), (38, some 70, .bool false), (39, some 71, .bool false), (2, some 34, .pointer (some ⟨p9_2.1, p9_2.2.1 + s49.toNat * 2, none⟩)), (8, some 40, .pointer (some ⟨p9_8.1, p9_8.2.1 + (IntKind.wrap .i64 (s49 - 1)).toNat * 2, none⟩)), (11, some 43, .bool false), (15, some 47, .pointer (some ⟨p9_15.1, p9_15.2.1 + s49.toNat * 2, none⟩)), (21, some 53, .pointer (some ⟨p9_21.1, p9_21.2.1 + (IntKind.wrap .i64 (s49 - 1)).toNat * 2, none⟩)), (24, some 56, .bool false)] ([0, 1, 3, 4, 5, 6, 7, 9, 10, 12, 13, 14, 16, 17, 18, 19, 20, 22, 23, 25, 26, 27, 28, 29, 30, 31, 32, 33, 34, 35, 36, 37, 38, 39] ++ [2, 8, 11, 15, 21, 24]) (by kernel_rfl) ?_
                refine D.fin (fr' := [(0, .int .i64 a0), (1, .slice h0.1 a1.length h0.2), (5, .slice p3_2.1 x3_2.length p3_2.2), (6, .int .i64 s49), (45, .slice p3_2.1 x3_2.length p3_2.2), (46, .int .i64 s49), (47, .pointer (some ⟨p9_15.1, p9_15.2.1 + s49.toNat * 2, none⟩)), (48, .pointer (some ⟨p9_15.1, p9_15.2.1 + s49.toNat * 2, none⟩)), (49, .int .i64 x9_15.f0), (50, .slice p3_2.1 x3_2.length p3_2.2), (51, .int .i64 s49), (52, .int .i64 (IntKind.wrap .i64 (s49 - 1))), (53, .pointer (some ⟨p9_21.1, p9_21.2.1 + (IntKind.wrap .i64 (s49 - 1)).toNat * 2, none⟩)), (54, .pointer (some ⟨p9_21.1, p9_21.2.1 + (IntKind.wrap .i64 (s49 - 1)).toNat * 2, none⟩)), (55, .int .i64 x9_21.f0), (56, .bool false), (57, .bool false), (58, undef), (59, undef), (60, undef), (61, undef), (62, undef), (63, undef), (64, undef), (65, undef), (66, undef), (67, undef), (68, undef), (69, undef), (70, .bool false), (71, .bool false)]) [0, 1, 3, 4, 5, 6, 7, 9, 10, 12, 13, 14, 16, 17, 18, 19, 20, 22, 23, 25, 26, 27, 28, 29, 30, 31, 32, 33, 34, 35, 36, 37, 38, 39] [2, 8, 11, 15, 21, 24] [(3, 0), (2, 0), (1, 0), (0, 0)] [p9_2.1, p9_2.2.1 + s49.toNat * 2, p9_8.1, p9_8.2.1 + (IntKind.wrap .i64 (s49 - 1)).toNat * 2, p9_15.1, p9_15.2.1 + s49.toNat * 2, p9_21.1, p9_21.2.1 + (IntKind.wrap .i64 (s49 - 1)).toNat * 2] [0, 1, 5, 6, 45, 46, 47, 48, 49, 50, 51, 52, 53, 54, 55, 56, 57, 58, 59, 60, 61, 62, 63, 64, 65, 66, 67, 68, 69, 70, 71] (by kernel_rfl) (by kernel_rfl) (⟨QuAt.mk (v := .pointer (some ⟨p9_2.1, p9_2.2.1 + s49.toNat * 2, none⟩)) (some 34) (by kernel_rfl) (by kernel_rfl) (Qu.idx (t := 22) (x := .tmp 32) (y := .tmp 33) (c := p3_2.2) (kk := .i64) (sz := 2) (by kernel_rfl) (by kernel_rfl) (by kernel_rfl) (by kernel_rfl) hx9_2a (idx_lt hx9_2) hp9_2A), QuAt.mk (v := .pointer (some ⟨p9_8.1, p9_8.2.1 + (IntKind.wrap .i64 (s49 - 1)).toNat * 2, none⟩)) (some 40) (by kernel_rfl) (by kernel_rfl) (Qu.idx (t := 22) (x := .tmp 37) (y := .tmp 39) (c := p3_2.2) (kk := .i64) (sz := 2) (by kernel_rfl) (by kernel_rfl) (by kernel_rfl) (by kernel_rfl) hx9_8a (idx_lt hx9_8) hp9_8A), QuAt.mk (v := .bool false) (some 43) (by kernel_rfl) (by kernel_rfl) (Qu.eqv (u := .bool (decide (x9_2.f0 < x9_8.f0))) (v := .bool false) (0, 0) [] (by kernel_rfl) (congrArg Value.bool hc59)), QuAt.mk (v := .pointer (some ⟨p9_15.1, p9_15.2.1 + s49.toNat * 2, none⟩)) (some 47) (by kernel_rfl) (by kernel_rfl) (Qu.idx (t := 22) (x := .tmp 45) (y := .tmp 46) (c := p3_2.2) (kk := .i64) (sz := 2) (by kernel_rfl) (by kernel_rfl) (by kernel_rfl) (by kernel_rfl) hx9_15a (idx_lt hx9_15) hp9_15A), QuAt.mk (v := .pointer (some ⟨p9_21.1, p9_21.2.1 + (IntKind.wrap .i64 (s49 - 1)).toNat * 2, none⟩)) (some 53) (by kernel_rfl) (by kernel_rfl) (Qu.idx (t := 22) (x := .tmp 50) (y := .tmp 52) (c := p3_2.2) (kk := .i64) (sz := 2) (by kernel_rfl) (by kernel_rfl) (by kernel_rfl) (by kernel_rfl) hx9_21a (idx_lt hx9_21) hp9_21A), QuAt.mk (v := .bool false) (some 56) (by kernel_rfl) (by kernel_rfl) (Qu.eqv (u := .bool (x9_15.f0 == x9_21.f0)) (v := .bool false) (0, 0) [] (by kernel_rfl) (congrArg Value.bool hc60)), trivial⟩) (by kernel_rfl) ?_
                refine J.cond (o := .tmp 71) false (by kernel_rfl) (by kernel_rfl) ?_
                refine J.skip (by kernel_rfl) ?_
                refine J.out ?_
                refine J.region (by kernel_rfl) ?_
                refine O.pure 3 [] [0, 1, 5, 6, 45, 46, 47, 48, 49, 50, 51, 52, 53, 54, 55, 56, 57, 58, 59, 60, 61, 62, 63, 64, 65, 66, 67, 68, 69, 70] [] (fr' := [(0, .int .i64 a0), (1, .slice h0.1 a1.length h0.2), (5, .slice p3_2.1 x3_2.length p3_2.2), (6, .int .i64 (IntKind.wrap .i64 (s49 + 1))), (45, .slice p3_2.1 x3_2.length p3_2.2), (46, .int .i64 s49), (47, .pointer (some ⟨p9_15.1, p9_15.2.1 + s49.toNat * 2, none⟩)), (48, .pointer (some ⟨p9_15.1, p9_15.2.1 + s49.toNat * 2, none⟩)), (49, .int .i64 x9_15.f0), (50, .slice p3_2.1 x3_2.length p3_2.2), (51, .int .i64 s49), (52, .int .i64 (IntKind.wrap .i64 (s49 - 1))), (53, .pointer (some ⟨p9_21.1, p9_21.2.1 + (IntKind.wrap .i64 (s49 - 1)).toNat * 2, none⟩)), (54, .pointer (some ⟨p9_21.1, p9_21.2.1 + (IntKind.wrap .i64 (s49 - 1)).toNat * 2, none⟩)), (55, .int .i64 x9_21.f0), (56, .bool false), (57, .bool false), (58, undef), (59, undef), (60, undef), (61, undef), (62, undef), (63, undef), (64, undef), (65, undef), (66, undef), (67, undef), (68, undef), (69, undef), (70, .bool false)]) (bx' := []) (by kernel_rfl) ?_
                refine O.nil (by kernel_rfl) ?_
                exact J.conv2 [0, 1, 5, 6] [0, 1] [] [] (by kernel_rfl) (by kernel_rfl) (by kernel_rfl) (by kernel_rfl) (by decide) (ih49 (IntKind.wrap .i64 (s49 + 1)) () H)
          · refine J.condF (x := .tmp 29) (t := (decide (s49 < (x3_2.length : Int)))) (by kernel_rfl) (by kernel_rfl) hc58 ?_
            refine J.exit (id := 0) (by kernel_rfl) rfl ?_
            obtain rfl := Option.some.inj H
            exact J.conv2 [0, 1] [0] [] [] (by kernel_rfl) (by kernel_rfl) (by kernel_rfl) (by kernel_rfl) (by decide) (hj3.1 _ rfl ())
        · refine J.mono (fun w hS => hS.freezeH (h := p3_2) (xs := x3_2)) ?_
          exact J.conv2 [0, 1, 5, 6] [1, 0] [] [] (by kernel_rfl) (by kernel_rfl) (by kernel_rfl) (by kernel_rfl) (by decide) h_
def haywainlaw05_BoxStays.Pure : Prop := ∀ (a0 : Int) (a1 : List S40), ((Lit.int .i64 a0).wf = true) → (a1.length * 16 ≤ 140737488351232 ∧ ∀ x_ ∈ a1, wf40 x_) → ∃ K, haywainlaw05_BoxStays.f K a0 a1 = some true
end Go.Proofs.Ytdbeannfjjbegaa.G
