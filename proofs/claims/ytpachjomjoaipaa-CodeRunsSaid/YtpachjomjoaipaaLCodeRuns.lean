/- The law CodeRuns as plain Lean, with its contract; printed by a program of this session. -/
import Derived.Test.YtpachjomjoaipaaG0
set_option linter.unusedVariables false
set_option linter.unusedSimpArgs false
namespace Go.Proofs.Ytpachjomjoaipaa.G
open Go Go.RowKit Go.Hw
/-! ### haywain/haywainlaw02.CodeRuns: function 7 -/
def haywainlaw02_CodeRuns.l18 (K : Nat) (o1 : (List Int) × Int × (List (List Int))) : Nat → ((List Int) × Int) → Option Bool
  | 0, _ => none
  | k + 1, s18 => cond (decide (s18.2 < (o1.2.2.length : Int))) ((code_TakeFrame.f K s18.1).bind fun x20_1 => cond (s18.2 == (IntKind.wrap .i64 ((o1.2.2.length : Int) - 1))) (cond ((x20_1.1.length : Int) == 0) (cond (x20_1.2.2 == 2) ((haywainlaw02_knows.f K).bind fun x22_8 => some (x22_8)) (some (false))) (some (false))) (cond (x20_1.2.2 != 0) (some (false)) ((idxO o1.2.2 s18.2).bind fun x23_7 => cond (!((strOfNums x20_1.1).toList == (strOfNums x23_7).toList)) (some (false)) (haywainlaw02_CodeRuns.l18 K o1 k (x20_1.2.1, (IntKind.wrap .i64 (s18.2 + 1))))))) (some (false))
def haywainlaw02_CodeRuns.l37 (K : Nat) (a0 : List (List Int)) : Nat → ((List Int) × Int × (List (List Int)) × Int) → Option (((List Int) × Int × (List (List Int))) ⊕ Bool)
  | 0, _ => none
  | k + 1, s37 => cond (decide (s37.2.2.2 < (a0.length : Int))) (cond (decide (s37.2.2.2 < 20)) ((idxO a0 s37.2.2.2).bind fun x7_2 => cond (decide ((x7_2.length : Int) > 500)) (haywainlaw02_CodeRuns.l37 K a0 k (s37.1, s37.2.1, s37.2.2.1, (IntKind.wrap .i64 (s37.2.2.2 + 1)))) ((idxO a0 s37.2.2.2).bind fun x8_3 => (appO 1 ([] : List Int) x8_3).bind fun y8_5 => (code_Frame.f K (([] : List Int) ++ x8_3)).bind fun x8_6 => cond (x8_6.2 != 0) (some (.inr (false))) (cond (decide ((x8_6.1.length : Int) < 8)) (some (.inr (false))) ((appO 1 s37.1 x8_6.1).bind fun y12_2 => (idxO a0 s37.2.2.2).bind fun x13_3 => (appO 24 s37.2.2.1 ([x13_3] : List (List Int))).bind fun y13_6 => haywainlaw02_CodeRuns.l37 K a0 k ((s37.1 ++ x8_6.1), (x8_6.1.length : Int), (s37.2.2.1 ++ ([x13_3] : List (List Int))), (IntKind.wrap .i64 (s37.2.2.2 + 1))))))) (some (.inl (s37.1, s37.2.1, s37.2.2.1)))) (some (.inl (s37.1, s37.2.1, s37.2.2.1)))
def haywainlaw02_CodeRuns.f (K : Nat) (a0 : List (List Int)) (a1 : Int) : Option Bool := (haywainlaw02_CodeRuns.l37 K a0 K (([] : List Int), 0, ([] : List (List Int)), 0) : Option (((List Int) × Int × (List (List Int))) ⊕ Bool)).bind (Sum.elim (fun o1 : (List Int) × Int × (List (List Int)) => cond ((o1.2.2.length : Int) == 0) ((haywainlaw02_knows.f K).bind fun x15_0 => some (x15_0)) ((remO (IntKind.wrap .u64 a1) (IntKind.wrap .u64 o1.2.1)).bind fun z16_8 => (cutO o1.1 0 (IntKind.wrap .i64 ((IntKind.wrap .i64 ((o1.1.length : Int) - 1)) - (IntKind.wrap .i64 ((IntKind.wrap .u64 a1).tmod (IntKind.wrap .u64 o1.2.1)))))).bind fun y16_11 => haywainlaw02_CodeRuns.l18 K o1 K ((cutL o1.1 ((0 : Int).toNat) (((IntKind.wrap .i64 ((IntKind.wrap .i64 ((o1.1.length : Int) - 1)) - (IntKind.wrap .i64 ((IntKind.wrap .u64 a1).tmod (IntKind.wrap .u64 o1.2.1))))) : Int).toNat)), 0))) some)
set_option maxRecDepth 100000 in
set_option maxHeartbeats 1000000 in
theorem haywainlaw02_CodeRuns.con (K : Nat) (a0 : List (List Int)) (a1 : Int) (h0 : Hd) (r : Bool) (X : Nat → Nat → Prop) (w : World) (hS : St X w [] [] [] [] [Rd (Kd.slice (Kd.int .u8)) h0.1 h0.2 a0] w) (H : haywainlaw02_CodeRuns.f K a0 a1 = some r) :
    Cn Try.prog 7 [.slice h0.1 a0.length h0.2, .int .i64 a1] X w [] (fun i : Unit => .bool r) (fun i => []) (fun i => []) (fun i => []) := by
  refine Cn.of Try.func7 (by kernel_rfl) hS ?_
  unfold haywainlaw02_CodeRuns.f at H
  refine J.seq (by kernel_rfl) ?_
  refine J.region (by kernel_rfl) ?_
  refine O.pure 1 [] [0, 1] [] (fr' := [(0, .slice h0.1 a0.length h0.2), (1, .int .i64 a1)]) (bx' := []) (by kernel_rfl) ?_
  refine O.nil (by kernel_rfl) ?_
  refine J.seq (by kernel_rfl) ?_
  refine J.region (by kernel_rfl) ?_
  refine O.pure 1 [] [0, 1, 5] [] (fr' := [(0, .slice h0.1 a0.length h0.2), (1, .int .i64 a1), (5, .slice none 0 0)]) (bx' := []) (by kernel_rfl) ?_
  refine O.nil (by kernel_rfl) ?_
  refine J.seq (by kernel_rfl) ?_
  refine J.region (by kernel_rfl) ?_
  refine O.pure 1 [] [0, 1, 5, 6] [] (fr' := [(0, .slice h0.1 a0.length h0.2), (1, .int .i64 a1), (5, .slice none 0 0), (6, .int .i64 0)]) (bx' := []) (by kernel_rfl) ?_
  refine O.nil (by kernel_rfl) ?_
  refine J.seq (by kernel_rfl) ?_
  refine J.region (by kernel_rfl) ?_
  refine O.pure 1 [] [0, 1, 5, 6, 7] [] (fr' := [(0, .slice h0.1 a0.length h0.2), (1, .int .i64 a1), (5, .slice none 0 0), (6, .int .i64 0), (7, .slice none 0 0)]) (bx' := []) (by kernel_rfl) ?_
  refine O.nil (by kernel_rfl) ?_
  refine J.seq (by kernel_rfl) ?_
  refine J.seq (by kernel_rfl) ?_
  refine J.region (by kernel_rfl) ?_
  refine O.pure 1 [] [0, 1, 5, 6, 7, 8] [] (fr' := [(0, .slice h0.1 a0.length h0.2), (1, .int .i64 a1), (5, .slice none 0 0), (6, .int .i64 0), (7, .slice none 0 0), (8, .int .i64 0)]) (bx' := []) (by kernel_rfl) ?_
  refine O.nil (by kernel_rfl) ?_
  refine J.joinS (α := (List Int) × Int × (List (List Int))) (γ := Hd × Hd) (fun o1 q1 => [(1, .int .i64 a1), (5, .slice q1.1.1 o1.1.length q1.1.2), (6, .int .i64 o1.2.1), (7, .slice q1.2.1 o1.2.2.length q1.2.2)]) (fun o1 q1 => St X w [] [] [mkRow (Kd.int .u8) 5 (.slice q1.1.1 o1.1.length q1.1.2) o1.1, mkRow (Kd.slice (Kd.int .u8)) 22 (.slice q1.2.1 o1.2.2.length q1.2.2) o1.2.2] [] [Rd (Kd.slice (Kd.int .u8)) h0.1 h0.2 a0]) H (fun o1 q1 H => ?_) (fun o1 H hj1 => ?_)
  · refine J.seq (by kernel_rfl) ?_
    refine J.seq (by kernel_rfl) ?_
    refine J.region (by kernel_rfl) ?_
    refine O.pure 3 [] [1, 5, 6, 7, 62] [] (fr' := [(1, .int .i64 a1), (5, .slice q1.1.1 o1.1.length q1.1.2), (6, .int .i64 o1.2.1), (7, .slice q1.2.1 o1.2.2.length q1.2.2), (62, .bool ((o1.2.2.length : Int) == 0))]) (bx' := []) (by kernel_rfl) ?_
    refine O.nil (by kernel_rfl) ?_
    rcases condE H with ⟨hc17, H⟩ | ⟨hc17, H⟩
    · refine J.condT (x := .tmp 62) (t := ((o1.2.2.length : Int) == 0)) (by kernel_rfl) (by kernel_rfl) hc17 ?_
      refine J.seq (by kernel_rfl) ?_
      obtain ⟨x15_0, hx15_0, H⟩ := bindE H
      refine J.region (by kernel_rfl) ?_
      refine O.e (some 63) (Ev.call0 (xs := []) [] (by kernel_rfl) (by kernel_rfl) (fun w hS => haywainlaw02_knows.con K  _ _ w hS hx15_0)) (by kernel_rfl) (fun _ => ?_)
      refine O.pure 1 [] [4] [] (fr' := [(4, .bool x15_0)]) (bx' := []) (by kernel_rfl) ?_
      refine O.nil (by kernel_rfl) ?_
      obtain rfl := Option.some.inj H
      exact J.doneS [] [] [] [] [] () (vs := [.bool x15_0]) (by kernel_rfl) (by kernel_rfl) (by kernel_rfl) (by kernel_rfl) (by kernel_rfl) (by decide)
    · refine J.condF (x := .tmp 62) (t := ((o1.2.2.length : Int) == 0)) (by kernel_rfl) (by kernel_rfl) hc17 ?_
      refine J.skip (by kernel_rfl) ?_
      refine J.seq (by kernel_rfl) ?_
      obtain ⟨z16_8, hz16_8, H⟩ := bindE H
      have hz16_8a := (remE hz16_8).1
      obtain ⟨y16_11, hy16_11, H⟩ := bindE H
      obtain ⟨hy16_11a, hy16_11b, hy16_11c, -⟩ := cutE hy16_11
      refine J.region (by kernel_rfl) ?_
      refine O.pure 8 [] [5, 7, 64, 67, 69, 71] [] (fr' := [(5, .slice q1.1.1 o1.1.length q1.1.2), (7, .slice q1.2.1 o1.2.2.length q1.2.2), (64, .slice q1.1.1 o1.1.length q1.1.2), (67, .int .i64 (IntKind.wrap .i64 ((o1.1.length : Int) - 1))), (69, .int .u64 (IntKind.wrap .u64 a1)), (71, .int .u64 (IntKind.wrap .u64 o1.2.1))]) (bx' := []) (by kernel_rfl) ?_
      refine O.q (v := .int .u64 ((IntKind.wrap .u64 a1).tmod (IntKind.wrap .u64 o1.2.1))) (some 72) (Qu.rem (t := 39) (t' := 39) (x := .tmp 69) (y := .tmp 71) (a := (IntKind.wrap .u64 a1)) (b := (IntKind.wrap .u64 o1.2.1)) (by kernel_rfl) (by kernel_rfl) (by kernel_rfl) hz16_8a) (by kernel_rfl) ?_
      refine O.pure 2 [] [5, 7, 64, 74] [] (fr' := [(5, .slice q1.1.1 o1.1.length q1.1.2), (7, .slice q1.2.1 o1.2.2.length q1.2.2), (64, .slice q1.1.1 o1.1.length q1.1.2), (74, .int .i64 (IntKind.wrap .i64 ((IntKind.wrap .i64 ((o1.1.length : Int) - 1)) - (IntKind.wrap .i64 ((IntKind.wrap .u64 a1).tmod (IntKind.wrap .u64 o1.2.1))))))]) (bx' := []) (by kernel_rfl) ?_
      refine O.e (some 75) (Ev.mono (fun w hS => hS.freezeH (h := q1.1) (xs := o1.1)) (Ev.cut (d := (Kd.int .u8)) (xs := o1.1) (t := 22) (x := .tmp 64) (lo := none) (hi := (some (.tmp 74))) (vlo := none) (vhi := (some (.int .i64 (IntKind.wrap .i64 ((IntKind.wrap .i64 ((o1.1.length : Int) - 1)) - (IntKind.wrap .i64 ((IntKind.wrap .u64 a1).tmod (IntKind.wrap .u64 o1.2.1)))))))) (A := q1.1.1) (c := q1.1.2) (l := (0 : Int).toNat) (h := ((IntKind.wrap .i64 ((IntKind.wrap .i64 ((o1.1.length : Int) - 1)) - (IntKind.wrap .i64 ((IntKind.wrap .u64 a1).tmod (IntKind.wrap .u64 o1.2.1))))) : Int).toNat) 0 (by kernel_rfl) (by kernel_rfl) (by kernel_rfl) (by kernel_rfl) (by kernel_rfl) (Bd.dflt _) (Bd.val _ _ _ (by omega)) (by omega) (by omega) rfl)) (by kernel_rfl) (fun p16_11 => ?_)
      refine O.pure 1 [] [5, 7] [] (fr' := [(5, .slice p16_11.1 (cutL o1.1 ((0 : Int).toNat) (((IntKind.wrap .i64 ((IntKind.wrap .i64 ((o1.1.length : Int) - 1)) - (IntKind.wrap .i64 ((IntKind.wrap .u64 a1).tmod (IntKind.wrap .u64 o1.2.1))))) : Int).toNat)).length p16_11.2), (7, .slice q1.2.1 o1.2.2.length q1.2.2)]) (bx' := []) (by kernel_rfl) ?_
      refine O.nil (by kernel_rfl) ?_
      refine J.seq (by kernel_rfl) ?_
      refine J.seq (by kernel_rfl) ?_
      refine J.region (by kernel_rfl) ?_
      refine O.pure 1 [] [5, 7, 11] [] (fr' := [(5, .slice p16_11.1 (cutL o1.1 ((0 : Int).toNat) (((IntKind.wrap .i64 ((IntKind.wrap .i64 ((o1.1.length : Int) - 1)) - (IntKind.wrap .i64 ((IntKind.wrap .u64 a1).tmod (IntKind.wrap .u64 o1.2.1))))) : Int).toNat)).length p16_11.2), (7, .slice q1.2.1 o1.2.2.length q1.2.2), (11, .int .i64 0)]) (bx' := []) (by kernel_rfl) ?_
      refine O.nil (by kernel_rfl) ?_
      refine J.block (id := 2) (by kernel_rfl) ?_
      refine J.loopI (σ := (List Int) × Int) (γ := Hd) (f := fun m_ s_ => haywainlaw02_CodeRuns.l18 K o1 m_ s_) (fun s18 g18 => [(5, .slice g18.1 s18.1.length g18.2), (7, .slice q1.2.1 o1.2.2.length q1.2.2), (11, .int .i64 s18.2)]) (fun s18 g18 => St X w [] [] [] [] [Rd (Kd.int .u8) g18.1 g18.2 s18.1, Rd (Kd.slice (Kd.int .u8)) h0.1 h0.2 a0, Rd (Kd.slice (Kd.int .u8)) q1.2.1 q1.2.2 o1.2.2]) K ((cutL o1.1 ((0 : Int).toNat) (((IntKind.wrap .i64 ((IntKind.wrap .i64 ((o1.1.length : Int) - 1)) - (IntKind.wrap .i64 ((IntKind.wrap .u64 a1).tmod (IntKind.wrap .u64 o1.2.1))))) : Int).toNat)), 0) p16_11 (by kernel_rfl) H (fun _ => rfl) (fun m_ s18 H ih18 g18 => ?_) (fun h_ => ?_)
      · unfold haywainlaw02_CodeRuns.l18 at H
        refine J.seq (by kernel_rfl) ?_
        refine J.seq (by kernel_rfl) ?_
        refine J.region (by kernel_rfl) ?_
        refine O.pure 4 [] [5, 7, 11, 79] [] (fr' := [(5, .slice g18.1 s18.1.length g18.2), (7, .slice q1.2.1 o1.2.2.length q1.2.2), (11, .int .i64 s18.2), (79, .bool (decide (s18.2 < (o1.2.2.length : Int))))]) (bx' := []) (by kernel_rfl) ?_
        refine O.nil (by kernel_rfl) ?_
        rcases condE H with ⟨hc31, H⟩ | ⟨hc31, H⟩
        · refine J.condT (x := .tmp 79) (t := (decide (s18.2 < (o1.2.2.length : Int)))) (by kernel_rfl) (by kernel_rfl) hc31 ?_
          refine J.skip (by kernel_rfl) ?_
          refine J.seq (by kernel_rfl) ?_
          refine J.block (id := 3) (by kernel_rfl) ?_
          refine J.seq (by kernel_rfl) ?_
          obtain ⟨x20_1, hx20_1, H⟩ := bindE H
          refine J.region (by kernel_rfl) ?_
          refine O.pure 1 [] [7, 11, 83] [] (fr' := [(7, .slice q1.2.1 o1.2.2.length q1.2.2), (11, .int .i64 s18.2), (83, .slice g18.1 s18.1.length g18.2)]) (bx' := []) (by kernel_rfl) ?_
          refine O.e (some 84) (Ev.call0 (xs := [.tmp 83]) [0] (by kernel_rfl) (by kernel_rfl) (fun w hS => code_TakeFrame.con K s18.1 g18  _ _ w hS hx20_1)) (by kernel_rfl) (fun p20_1 => ?_)
          refine O.pure 7 [] [7, 11, 12, 13, 14] [] (fr' := [(7, .slice q1.2.1 o1.2.2.length q1.2.2), (11, .int .i64 s18.2), (12, .slice p20_1.1.1 x20_1.1.length p20_1.1.2), (13, .slice p20_1.2.1 x20_1.2.1.length p20_1.2.2), (14, .int .i64 x20_1.2.2)]) (bx' := []) (by kernel_rfl) ?_
          refine O.nil (by kernel_rfl) ?_
          refine J.seq (by kernel_rfl) ?_
          refine J.seq (by kernel_rfl) ?_
          refine J.region (by kernel_rfl) ?_
          refine O.pure 5 [] [7, 11, 12, 13, 14, 92] [] (fr' := [(7, .slice q1.2.1 o1.2.2.length q1.2.2), (11, .int .i64 s18.2), (12, .slice p20_1.1.1 x20_1.1.length p20_1.1.2), (13, .slice p20_1.2.1 x20_1.2.1.length p20_1.2.2), (14, .int .i64 x20_1.2.2), (92, .bool (s18.2 == (IntKind.wrap .i64 ((o1.2.2.length : Int) - 1))))]) (bx' := []) (by kernel_rfl) ?_
          refine O.nil (by kernel_rfl) ?_
          rcases condE H with ⟨hc32, H⟩ | ⟨hc32, H⟩
          · refine J.condT (x := .tmp 92) (t := (s18.2 == (IntKind.wrap .i64 ((o1.2.2.length : Int) - 1)))) (by kernel_rfl) (by kernel_rfl) hc32 ?_
            refine J.seq (by kernel_rfl) ?_
            rcases condE H with ⟨hc33, H⟩ | ⟨hc33, H⟩
            · rcases condE H with ⟨hc34, H⟩ | ⟨hc34, H⟩
              · obtain ⟨x22_8, hx22_8, H⟩ := bindE H
                refine J.region (by kernel_rfl) ?_
                refine O.pure 2 [] [14, 94] [] (fr' := [(14, .int .i64 x20_1.2.2), (94, .int .i64 (x20_1.1.length : Int))]) (bx' := []) (by kernel_rfl) ?_
                refine O.q (v := .bool true) (some 95) (Qu.eqv (u := .bool ((x20_1.1.length : Int) == 0)) (v := .bool true) (0, 0) [] (by kernel_rfl) (congrArg Value.bool hc33)) (by kernel_rfl) ?_
                refine O.pure 2 [] [96, 97] [] (fr' := [(96, .bool true), (97, .int .i64 x20_1.2.2)]) (bx' := []) (by kernel_rfl) ?_
                refine O.q (v := .bool true) (some 98) (Qu.eqv (u := .bool (x20_1.2.2 == 2)) (v := .bool true) (0, 0) [] (by kernel_rfl) (congrArg Value.bool hc34)) (by kernel_rfl) ?_
                refine O.pure 2 [] [100] [] (fr' := [(100, .bool true)]) (bx' := []) (by kernel_rfl) ?_
                refine O.e (some 101) (Ev.call0 (xs := []) [] (by kernel_rfl) (by kernel_rfl) (fun w hS => haywainlaw02_knows.con K  _ _ w hS hx22_8)) (by kernel_rfl) (fun _ => ?_)
                refine O.pure 2 [] [4] [] (fr' := [(4, .bool x22_8)]) (bx' := []) (by kernel_rfl) ?_
                refine O.nil (by kernel_rfl) ?_
                obtain rfl := Option.some.inj H
                exact J.doneS [] [] [] [] [] () (vs := [.bool x22_8]) (by kernel_rfl) (by kernel_rfl) (by kernel_rfl) (by kernel_rfl) (by kernel_rfl) (by decide)
              · refine J.region (by kernel_rfl) ?_
                refine O.pure 2 [] [14, 94] [] (fr' := [(14, .int .i64 x20_1.2.2), (94, .int .i64 (x20_1.1.length : Int))]) (bx' := []) (by kernel_rfl) ?_
                refine O.q (v := .bool true) (some 95) (Qu.eqv (u := .bool ((x20_1.1.length : Int) == 0)) (v := .bool true) (0, 0) [] (by kernel_rfl) (congrArg Value.bool hc33)) (by kernel_rfl) ?_
                refine O.pure 2 [] [96, 97] [] (fr' := [(96, .bool true), (97, .int .i64 x20_1.2.2)]) (bx' := []) (by kernel_rfl) ?_
                refine O.q (v := .bool false) (some 98) (Qu.eqv (u := .bool (x20_1.2.2 == 2)) (v := .bool false) (0, 0) [] (by kernel_rfl) (congrArg Value.bool hc34)) (by kernel_rfl) ?_
                refine O.pure 5 [] [4] [] (fr' := [(4, .bool false)]) (bx' := []) (by kernel_rfl) ?_
                refine O.nil (by kernel_rfl) ?_
                obtain rfl := Option.some.inj H
                exact J.doneS [] [] [] [] [] () (vs := [.bool false]) (by kernel_rfl) (by kernel_rfl) (by kernel_rfl) (by kernel_rfl) (by kernel_rfl) (by decide)
            · refine J.region (by kernel_rfl) ?_
              refine O.pure 2 [] [14, 94] [] (fr' := [(14, .int .i64 x20_1.2.2), (94, .int .i64 (x20_1.1.length : Int))]) (bx' := []) (by kernel_rfl) ?_
              refine O.q (v := .bool false) (some 95) (Qu.eqv (u := .bool ((x20_1.1.length : Int) == 0)) (v := .bool false) (0, 0) [] (by kernel_rfl) (congrArg Value.bool hc33)) (by kernel_rfl) ?_
              refine O.pure 8 [] [4] [] (fr' := [(4, .bool false)]) (bx' := []) (by kernel_rfl) ?_
              refine O.nil (by kernel_rfl) ?_
              obtain rfl := Option.some.inj H
              exact J.doneS [] [] [] [] [] () (vs := [.bool false]) (by kernel_rfl) (by kernel_rfl) (by kernel_rfl) (by kernel_rfl) (by kernel_rfl) (by decide)
          · refine J.condF (x := .tmp 92) (t := (s18.2 == (IntKind.wrap .i64 ((o1.2.2.length : Int) - 1)))) (by kernel_rfl) (by kernel_rfl) hc32 ?_
            refine J.skip (by kernel_rfl) ?_
            refine J.seq (by kernel_rfl) ?_
            refine J.seq (by kernel_rfl) ?_
            rcases condE H with ⟨hc35, H⟩ | ⟨hc35, H⟩
            · refine J.drawS (by kernel_rfl) [(0, some 103, .int .i64 x20_1.2.2), (2, some 105, .bool true), (3, some 106, undef), (4, some 107, undef), (5, some 108, undef), (6, some 109, undef), (7, some 110, undef), (8, some 111, undef), (9, some 112, undef), (10, some 113, undef), (11, some 114, .bool true), (1, some 104, .bool true)] ([0, 2, 3, 4, 5, 6, 7, 8, 9, 10, 11] ++ [1]) (by kernel_rfl) ?_
              refine D.fin (fr' := [(7, .slice q1.2.1 o1.2.2.length q1.2.2), (11, .int .i64 s18.2), (13, .slice p20_1.2.1 x20_1.2.1.length p20_1.2.2), (106, undef), (107, undef), (108, undef), (109, undef), (110, undef), (111, undef), (112, undef), (113, undef), (114, .bool true)]) [0, 2, 3, 4, 5, 6, 7, 8, 9, 10, 11] [1] [] [] [7, 11, 13, 106, 107, 108, 109, 110, 111, 112, 113, 114] (by kernel_rfl) (by kernel_rfl) (⟨QuAt.mk (v := .bool true) (some 104) (by kernel_rfl) (by kernel_rfl) (Qu.eqv (u := .bool (x20_1.2.2 != 0)) (v := .bool true) (0, 0) [] (by kernel_rfl) (congrArg Value.bool hc35)), trivial⟩) (by kernel_rfl) ?_
              refine J.cond (o := .tmp 114) true (by kernel_rfl) (by kernel_rfl) ?_
              refine J.seq (by kernel_rfl) ?_
              refine J.region (by kernel_rfl) ?_
              refine O.pure 1 [] [4] [] (fr' := [(4, .bool false)]) (bx' := []) (by kernel_rfl) ?_
              refine O.nil (by kernel_rfl) ?_
              obtain rfl := Option.some.inj H
              exact J.doneS [] [] [] [] [] () (vs := [.bool false]) (by kernel_rfl) (by kernel_rfl) (by kernel_rfl) (by kernel_rfl) (by kernel_rfl) (by decide)
            · obtain ⟨x23_7, hx23_7, H⟩ := bindE H
              obtain ⟨hx23_7a, hx23_7⟩ := idxE hx23_7
              refine J.open (d := (Kd.slice (Kd.int .u8))) (h := q1.2) (i := s18.2) 3 rfl hx23_7 (Lay.slice _ _) (fun p23_7 hp23_7A => ?_)
              refine J.drawS (by kernel_rfl) [(0, some 103, .int .i64 x20_1.2.2), (2, some 105, .bool false), (3, some 106, .slice p20_1.1.1 x20_1.1.length p20_1.1.2), (5, some 108, .slice q1.2.1 o1.2.2.length q1.2.2), (6, some 109, .int .i64 s18.2), (8, some 111, .slice p23_7.2.2.1 x23_7.length p23_7.2.2.2), (10, some 113, .bool (!((strOfNums x20_1.1).toList == (strOfNums x23_7).toList))), (11, some 114, .bool (!((strOfNums x20_1.1).toList == (strOfNums x23_7).toList))), (1, some 104, .bool false), (4, some 107, .string (strOfNums x20_1.1)), (7, some 110, .pointer (some ⟨p23_7.1, p23_7.2.1 + s18.2.toNat * 1, none⟩)), (9, some 112, .string (strOfNums x23_7))] ([0, 2, 3, 5, 6, 8, 10, 11] ++ [1, 4, 7, 9]) (by kernel_rfl) ?_
              refine D.fin (fr' := [(7, .slice q1.2.1 o1.2.2.length q1.2.2), (11, .int .i64 s18.2), (13, .slice p20_1.2.1 x20_1.2.1.length p20_1.2.2), (106, .slice p20_1.1.1 x20_1.1.length p20_1.1.2), (107, .string (strOfNums x20_1.1)), (108, .slice q1.2.1 o1.2.2.length q1.2.2), (109, .int .i64 s18.2), (110, .pointer (some ⟨p23_7.1, p23_7.2.1 + s18.2.toNat * 1, none⟩)), (111, .slice p23_7.2.2.1 x23_7.length p23_7.2.2.2), (112, .string (strOfNums x23_7)), (113, .bool (!((strOfNums x20_1.1).toList == (strOfNums x23_7).toList))), (114, .bool (!((strOfNums x20_1.1).toList == (strOfNums x23_7).toList)))]) [0, 2, 3, 5, 6, 8, 10, 11] [1, 4, 7, 9] [(0, 0)] [p23_7.1, p23_7.2.1 + s18.2.toNat * 1] [7, 11, 13, 106, 107, 108, 109, 110, 111, 112, 113, 114] (by kernel_rfl) (by kernel_rfl) (⟨QuAt.mk (v := .bool false) (some 104) (by kernel_rfl) (by kernel_rfl) (Qu.eqv (u := .bool (x20_1.2.2 != 0)) (v := .bool false) (0, 0) [] (by kernel_rfl) (congrArg Value.bool hc35)), QuAt.mk (v := .string (strOfNums x20_1.1)) (some 107) (by kernel_rfl) (by kernel_rfl) (Qu.str (t := 22) (u := 9) (x := .tmp 106) (h := p20_1.1) (xs := x20_1.1) 1 (by kernel_rfl) (by kernel_rfl) (by kernel_rfl) (by kernel_rfl) rfl), QuAt.mk (v := .pointer (some ⟨p23_7.1, p23_7.2.1 + s18.2.toNat * 1, none⟩)) (some 110) (by kernel_rfl) (by kernel_rfl) (Qu.idx (t := 41) (x := .tmp 108) (y := .tmp 109) (c := q1.2.2) (kk := .i64) (sz := 1) (by kernel_rfl) (by kernel_rfl) (by kernel_rfl) (by kernel_rfl) hx23_7a (idx_lt hx23_7) hp23_7A), QuAt.mk (v := .string (strOfNums x23_7)) (some 112) (by kernel_rfl) (by kernel_rfl) (Qu.str (t := 22) (u := 9) (x := .tmp 111) (h := p23_7.2.2) (xs := x23_7) 0 (by kernel_rfl) (by kernel_rfl) (by kernel_rfl) (by kernel_rfl) rfl), trivial⟩) (by kernel_rfl) ?_
              rcases condE H with ⟨hc36, H⟩ | ⟨hc36, H⟩
              · refine J.condT (x := .tmp 114) (t := (!((strOfNums x20_1.1).toList == (strOfNums x23_7).toList))) (by kernel_rfl) (by kernel_rfl) hc36 ?_
                refine J.seq (by kernel_rfl) ?_
                refine J.region (by kernel_rfl) ?_
                refine O.pure 1 [] [4] [] (fr' := [(4, .bool false)]) (bx' := []) (by kernel_rfl) ?_
                refine O.nil (by kernel_rfl) ?_
                obtain rfl := Option.some.inj H
                exact J.doneS [] [] [] [] [] () (vs := [.bool false]) (by kernel_rfl) (by kernel_rfl) (by kernel_rfl) (by kernel_rfl) (by kernel_rfl) (by decide)
              · refine J.condF (x := .tmp 114) (t := (!((strOfNums x20_1.1).toList == (strOfNums x23_7).toList))) (by kernel_rfl) (by kernel_rfl) hc36 ?_
                refine J.skip (by kernel_rfl) ?_
                refine J.region (by kernel_rfl) ?_
                refine O.pure 2 [] [5, 7, 11, 106, 107, 108, 109, 110, 111, 112, 113] [] (fr' := [(5, .slice p20_1.2.1 x20_1.2.1.length p20_1.2.2), (7, .slice q1.2.1 o1.2.2.length q1.2.2), (11, .int .i64 s18.2), (106, .slice p20_1.1.1 x20_1.1.length p20_1.1.2), (107, .string (strOfNums x20_1.1)), (108, .slice q1.2.1 o1.2.2.length q1.2.2), (109, .int .i64 s18.2), (110, .pointer (some ⟨p23_7.1, p23_7.2.1 + s18.2.toNat * 1, none⟩)), (111, .slice p23_7.2.2.1 x23_7.length p23_7.2.2.2), (112, .string (strOfNums x23_7)), (113, .bool (!((strOfNums x20_1.1).toList == (strOfNums x23_7).toList)))]) (bx' := []) (by kernel_rfl) ?_
                refine O.nil (by kernel_rfl) ?_
                refine J.out ?_
                refine J.region (by kernel_rfl) ?_
                refine O.pure 3 [] [5, 7, 11, 106, 107, 108, 109, 110, 111, 112, 113] [] (fr' := [(5, .slice p20_1.2.1 x20_1.2.1.length p20_1.2.2), (7, .slice q1.2.1 o1.2.2.length q1.2.2), (11, .int .i64 (IntKind.wrap .i64 (s18.2 + 1))), (106, .slice p20_1.1.1 x20_1.1.length p20_1.1.2), (107, .string (strOfNums x20_1.1)), (108, .slice q1.2.1 o1.2.2.length q1.2.2), (109, .int .i64 s18.2), (110, .pointer (some ⟨p23_7.1, p23_7.2.1 + s18.2.toNat * 1, none⟩)), (111, .slice p23_7.2.2.1 x23_7.length p23_7.2.2.2), (112, .string (strOfNums x23_7)), (113, .bool (!((strOfNums x20_1.1).toList == (strOfNums x23_7).toList)))]) (bx' := []) (by kernel_rfl) ?_
                refine O.nil (by kernel_rfl) ?_
                refine J.mono (fun w hS => hS.freezeH (h := p20_1.2) (xs := x20_1.2.1)) ?_
                exact J.conv2 [5, 7, 11] [0, 4, 5] [] [] (by kernel_rfl) (by kernel_rfl) (by kernel_rfl) (by kernel_rfl) (by decide) (ih18 (x20_1.2.1, (IntKind.wrap .i64 (s18.2 + 1))) p20_1.2 H)
        · refine J.condF (x := .tmp 79) (t := (decide (s18.2 < (o1.2.2.length : Int)))) (by kernel_rfl) (by kernel_rfl) hc31 ?_
          refine J.exit (id := 2) (by kernel_rfl) rfl ?_
          refine J.seq (by kernel_rfl) ?_
          refine J.region (by kernel_rfl) ?_
          refine O.pure 1 [] [4] [] (fr' := [(4, .bool false)]) (bx' := []) (by kernel_rfl) ?_
          refine O.nil (by kernel_rfl) ?_
          obtain rfl := Option.some.inj H
          exact J.doneS [] [] [] [] [] () (vs := [.bool false]) (by kernel_rfl) (by kernel_rfl) (by kernel_rfl) (by kernel_rfl) (by kernel_rfl) (by decide)
      · refine J.mono (fun w hS => hS.freezeH (h := q1.2) (xs := o1.2.2)) ?_
        exact J.conv2 [5, 7, 11] [1, 3, 0] [] [] (by kernel_rfl) (by kernel_rfl) (by kernel_rfl) (by kernel_rfl) (by decide) h_
  · refine J.block (id := 0) (by kernel_rfl) ?_
    refine J.loopI (σ := (List Int) × Int × (List (List Int)) × Int) (γ := Hd × Hd) (f := fun m_ s_ => haywainlaw02_CodeRuns.l37 K a0 m_ s_) (fun s37 g37 => [(0, .slice h0.1 a0.length h0.2), (1, .int .i64 a1), (5, .slice g37.1.1 s37.1.length g37.1.2), (6, .int .i64 s37.2.1), (7, .slice g37.2.1 s37.2.2.1.length g37.2.2), (8, .int .i64 s37.2.2.2)]) (fun s37 g37 => St X w [] [] [mkRow (Kd.int .u8) 5 (.slice g37.1.1 s37.1.length g37.1.2) s37.1, mkRow (Kd.slice (Kd.int .u8)) 22 (.slice g37.2.1 s37.2.2.1.length g37.2.2) s37.2.2.1] [] [Rd (Kd.slice (Kd.int .u8)) h0.1 h0.2 a0]) K (([] : List Int), 0, ([] : List (List Int)), 0) ((none, 0), (none, 0)) (by kernel_rfl) H (fun _ => rfl) (fun m_ s37 H ih37 g37 => ?_) (fun h_ => ?_)
    · unfold haywainlaw02_CodeRuns.l37 at H
      refine J.seq (by kernel_rfl) ?_
      refine J.seq (by kernel_rfl) ?_
      rcases condE H with ⟨hc47, H⟩ | ⟨hc47, H⟩
      · refine J.region (by kernel_rfl) ?_
        refine O.pure 3 [] [0, 1, 5, 6, 7, 8, 15, 17] [] (fr' := [(0, .slice h0.1 a0.length h0.2), (1, .int .i64 a1), (5, .slice g37.1.1 s37.1.length g37.1.2), (6, .int .i64 s37.2.1), (7, .slice g37.2.1 s37.2.2.1.length g37.2.2), (8, .int .i64 s37.2.2.2), (15, .int .i64 s37.2.2.2), (17, .int .i64 (a0.length : Int))]) (bx' := []) (by kernel_rfl) ?_
        refine O.q (v := .bool true) (some 18) (Qu.eqv (u := .bool (decide (s37.2.2.2 < (a0.length : Int)))) (v := .bool true) (0, 0) [] (by kernel_rfl) (congrArg Value.bool hc47)) (by kernel_rfl) ?_
        refine O.pure 4 [] [0, 1, 5, 6, 7, 8, 20, 21, 22] [] (fr' := [(0, .slice h0.1 a0.length h0.2), (1, .int .i64 a1), (5, .slice g37.1.1 s37.1.length g37.1.2), (6, .int .i64 s37.2.1), (7, .slice g37.2.1 s37.2.2.1.length g37.2.2), (8, .int .i64 s37.2.2.2), (20, .int .i64 s37.2.2.2), (21, .bool (decide (s37.2.2.2 < 20))), (22, .bool (decide (s37.2.2.2 < 20)))]) (bx' := []) (by kernel_rfl) ?_
        refine O.nil (by kernel_rfl) ?_
        rcases condE H with ⟨hc48, H⟩ | ⟨hc48, H⟩
        · refine J.condT (x := .tmp 22) (t := (decide (s37.2.2.2 < 20))) (by kernel_rfl) (by kernel_rfl) hc48 ?_
          refine J.skip (by kernel_rfl) ?_
          refine J.seq (by kernel_rfl) ?_
          refine J.block (id := 1) (by kernel_rfl) ?_
          refine J.seq (by kernel_rfl) ?_
          refine J.seq (by kernel_rfl) ?_
          obtain ⟨x7_2, hx7_2, H⟩ := bindE H
          obtain ⟨hx7_2a, hx7_2⟩ := idxE hx7_2
          refine J.region (by kernel_rfl) ?_
          refine O.pure 2 [] [0, 1, 5, 6, 7, 8, 20, 21, 25, 26] [] (fr' := [(0, .slice h0.1 a0.length h0.2), (1, .int .i64 a1), (5, .slice g37.1.1 s37.1.length g37.1.2), (6, .int .i64 s37.2.1), (7, .slice g37.2.1 s37.2.2.1.length g37.2.2), (8, .int .i64 s37.2.2.2), (20, .int .i64 s37.2.2.2), (21, .bool (decide (s37.2.2.2 < 20))), (25, .slice h0.1 a0.length h0.2), (26, .int .i64 s37.2.2.2)]) (bx' := []) (by kernel_rfl) ?_
          refine O.open (d := (Kd.slice (Kd.int .u8))) (h := h0) (i := s37.2.2.2) 0 rfl hx7_2 (Lay.slice _ _) (fun p7_2 hp7_2A => ?_)
          refine O.q (v := .pointer (some ⟨p7_2.1, p7_2.2.1 + s37.2.2.2.toNat * 1, none⟩)) (some 27) (Qu.idx (t := 41) (x := .tmp 25) (y := .tmp 26) (c := h0.2) (kk := .i64) (sz := 1) (by kernel_rfl) (by kernel_rfl) (by kernel_rfl) (by kernel_rfl) hx7_2a (idx_lt hx7_2) hp7_2A) (by kernel_rfl) ?_
          refine O.pure 3 [(0, 0)] [0, 1, 5, 6, 7, 8, 20, 21, 30] [p7_2.1, p7_2.2.1 + s37.2.2.2.toNat * 1] (fr' := [(0, .slice h0.1 a0.length h0.2), (1, .int .i64 a1), (5, .slice g37.1.1 s37.1.length g37.1.2), (6, .int .i64 s37.2.1), (7, .slice g37.2.1 s37.2.2.1.length g37.2.2), (8, .int .i64 s37.2.2.2), (20, .int .i64 s37.2.2.2), (21, .bool (decide (s37.2.2.2 < 20))), (30, .bool (decide ((x7_2.length : Int) > 500)))]) (bx' := []) (by kernel_rfl) ?_
          refine O.nil (by kernel_rfl) ?_
          rcases condE H with ⟨hc49, H⟩ | ⟨hc49, H⟩
          · refine J.condT (x := .tmp 30) (t := (decide ((x7_2.length : Int) > 500))) (by kernel_rfl) (by kernel_rfl) hc49 ?_
            refine J.exit (id := 1) (by kernel_rfl) rfl ?_
            refine J.region (by kernel_rfl) ?_
            refine O.pure 3 [] [0, 1, 5, 6, 7, 8, 20, 21] [] (fr' := [(0, .slice h0.1 a0.length h0.2), (1, .int .i64 a1), (5, .slice g37.1.1 s37.1.length g37.1.2), (6, .int .i64 s37.2.1), (7, .slice g37.2.1 s37.2.2.1.length g37.2.2), (8, .int .i64 (IntKind.wrap .i64 (s37.2.2.2 + 1))), (20, .int .i64 s37.2.2.2), (21, .bool (decide (s37.2.2.2 < 20)))]) (bx' := []) (by kernel_rfl) ?_
            refine O.nil (by kernel_rfl) ?_
            exact J.conv2 [0, 1, 5, 6, 7, 8] [1] [] [0, 1] (by kernel_rfl) (by kernel_rfl) (by kernel_rfl) (by kernel_rfl) (by decide) (ih37 (s37.1, s37.2.1, s37.2.2.1, (IntKind.wrap .i64 (s37.2.2.2 + 1))) (g37.1, g37.2) H)
          · refine J.condF (x := .tmp 30) (t := (decide ((x7_2.length : Int) > 500))) (by kernel_rfl) (by kernel_rfl) hc49 ?_
            refine J.skip (by kernel_rfl) ?_
            refine J.seq (by kernel_rfl) ?_
            obtain ⟨x8_3, hx8_3, H⟩ := bindE H
            obtain ⟨hx8_3a, hx8_3⟩ := idxE hx8_3
            obtain ⟨y8_5, hy8_5, H⟩ := bindE H
            have hy8_5a := (appE hy8_5).1
            obtain ⟨x8_6, hx8_6, H⟩ := bindE H
            refine J.region (by kernel_rfl) ?_
            refine O.e (some 32) (Ev.lit (t := 22) (len := 0) (parts := #[]) (ps := []) (cs := []) (e := 5) (Kd.int .u8) ([] : List Int) (by kernel_rfl) (by kernel_rfl) (by kernel_rfl) (by kernel_rfl) (by kernel_rfl) (by decide) (fun w' hφ => (Els.nil _ _ _))) (by kernel_rfl) (fun p8_0 => ?_)
            refine O.pure 2 [] [0, 1, 5, 7, 8, 20, 21, 32, 33, 34] [] (fr' := [(0, .slice h0.1 a0.length h0.2), (1, .int .i64 a1), (5, .slice g37.1.1 s37.1.length g37.1.2), (7, .slice g37.2.1 s37.2.2.1.length g37.2.2), (8, .int .i64 s37.2.2.2), (20, .int .i64 s37.2.2.2), (21, .bool (decide (s37.2.2.2 < 20))), (32, .slice ((some ⟨p8_0, 0, none⟩, 0) : Hd).1 ([] : List Int).length ((some ⟨p8_0, 0, none⟩, 0) : Hd).2), (33, .slice h0.1 a0.length h0.2), (34, .int .i64 s37.2.2.2)]) (bx' := []) (by kernel_rfl) ?_
            refine O.open (d := (Kd.slice (Kd.int .u8))) (h := h0) (i := s37.2.2.2) 1 rfl hx8_3 (Lay.slice _ _) (fun p8_3 hp8_3A => ?_)
            refine O.q (v := .pointer (some ⟨p8_3.1, p8_3.2.1 + s37.2.2.2.toNat * 1, none⟩)) (some 35) (Qu.idx (t := 41) (x := .tmp 33) (y := .tmp 34) (c := h0.2) (kk := .i64) (sz := 1) (by kernel_rfl) (by kernel_rfl) (by kernel_rfl) (by kernel_rfl) hx8_3a (idx_lt hx8_3) hp8_3A) (by kernel_rfl) ?_
            refine O.pure 1 [(0, 0)] [0, 1, 5, 7, 8, 20, 21, 32, 36] [p8_3.1, p8_3.2.1 + s37.2.2.2.toNat * 1] (fr' := [(0, .slice h0.1 a0.length h0.2), (1, .int .i64 a1), (5, .slice g37.1.1 s37.1.length g37.1.2), (7, .slice g37.2.1 s37.2.2.1.length g37.2.2), (8, .int .i64 s37.2.2.2), (20, .int .i64 s37.2.2.2), (21, .bool (decide (s37.2.2.2 < 20))), (32, .slice ((some ⟨p8_0, 0, none⟩, 0) : Hd).1 ([] : List Int).length ((some ⟨p8_0, 0, none⟩, 0) : Hd).2), (36, .slice p8_3.2.2.1 x8_3.length p8_3.2.2.2)]) (bx' := []) (by kernel_rfl) ?_
            refine O.e (some 37) (Ev.appSl (d := (Kd.int .u8)) (ys := x8_3) (A := p8_3.2.2.1) (c := p8_3.2.2.2) (x := .tmp 32) (y := .tmp 36) (t := 22) (bytes := 1) 0 (by kernel_rfl) (by kernel_rfl) (by kernel_rfl) rfl (by kernel_rfl) (by decide) hy8_5a) (by kernel_rfl) (fun p8_5 => ?_)
            refine O.e (some 38) (Ev.callL (hh := p8_5) (xs := (([] : List Int) ++ x8_3)) (m := (([] : List Int) ++ x8_3).length) (xs1 := [.tmp 37]) [0] rfl (by kernel_rfl) (by kernel_rfl) (fun _ q hq _ _ _ h => by obtain rfl := List.mem_singleton.1 hq; exact h) (fun w hS => code_Frame.con K (([] : List Int) ++ x8_3) p8_5  _ _ w hS hx8_6)) (by kernel_rfl) (fun p8_6 => ?_)
            refine O.pure 5 [] [0, 1, 5, 7, 8, 9, 10, 20, 21] [] (fr' := [(0, .slice h0.1 a0.length h0.2), (1, .int .i64 a1), (5, .slice g37.1.1 s37.1.length g37.1.2), (7, .slice g37.2.1 s37.2.2.1.length g37.2.2), (8, .int .i64 s37.2.2.2), (9, .slice p8_6.1 x8_6.1.length p8_6.2), (10, .int .i64 x8_6.2), (20, .int .i64 s37.2.2.2), (21, .bool (decide (s37.2.2.2 < 20)))]) (bx' := []) (by kernel_rfl) ?_
            refine O.nil (by kernel_rfl) ?_
            refine J.seq (by kernel_rfl) ?_
            refine J.seq (by kernel_rfl) ?_
            rcases condE H with ⟨hc50, H⟩ | ⟨hc50, H⟩
            · refine J.region (by kernel_rfl) ?_
              refine O.pure 1 [] [0, 1, 5, 7, 8, 9, 20, 21, 41] [] (fr' := [(0, .slice h0.1 a0.length h0.2), (1, .int .i64 a1), (5, .slice g37.1.1 s37.1.length g37.1.2), (7, .slice g37.2.1 s37.2.2.1.length g37.2.2), (8, .int .i64 s37.2.2.2), (9, .slice p8_6.1 x8_6.1.length p8_6.2), (20, .int .i64 s37.2.2.2), (21, .bool (decide (s37.2.2.2 < 20))), (41, .int .i64 x8_6.2)]) (bx' := []) (by kernel_rfl) ?_
              refine O.q (v := .bool true) (some 42) (Qu.eqv (u := .bool (x8_6.2 != 0)) (v := .bool true) (0, 0) [] (by kernel_rfl) (congrArg Value.bool hc50)) (by kernel_rfl) ?_
              refine O.pure 5 [] [0, 1, 5, 7, 8, 9, 20, 21, 44, 45, 46, 47] [] (fr' := [(0, .slice h0.1 a0.length h0.2), (1, .int .i64 a1), (5, .slice g37.1.1 s37.1.length g37.1.2), (7, .slice g37.2.1 s37.2.2.1.length g37.2.2), (8, .int .i64 s37.2.2.2), (9, .slice p8_6.1 x8_6.1.length p8_6.2), (20, .int .i64 s37.2.2.2), (21, .bool (decide (s37.2.2.2 < 20))), (44, undef), (45, undef), (46, undef), (47, .bool true)]) (bx' := []) (by kernel_rfl) ?_
              refine O.nil (by kernel_rfl) ?_
              refine J.cond (o := .tmp 47) true (by kernel_rfl) (by kernel_rfl) ?_
              refine J.seq (by kernel_rfl) ?_
              refine J.region (by kernel_rfl) ?_
              refine O.pure 1 [] [4] [] (fr' := [(4, .bool false)]) (bx' := []) (by kernel_rfl) ?_
              refine O.nil (by kernel_rfl) ?_
              obtain rfl := Option.some.inj H
              obtain rfl := hj1.2 _ rfl
              exact J.doneS [] [] [] [] [] () (vs := [.bool false]) (by kernel_rfl) (by kernel_rfl) (by kernel_rfl) (by kernel_rfl) (by kernel_rfl) (by decide)
            · refine J.region (by kernel_rfl) ?_
              refine O.pure 1 [] [0, 1, 5, 7, 8, 9, 20, 21, 41] [] (fr' := [(0, .slice h0.1 a0.length h0.2), (1, .int .i64 a1), (5, .slice g37.1.1 s37.1.length g37.1.2), (7, .slice g37.2.1 s37.2.2.1.length g37.2.2), (8, .int .i64 s37.2.2.2), (9, .slice p8_6.1 x8_6.1.length p8_6.2), (20, .int .i64 s37.2.2.2), (21, .bool (decide (s37.2.2.2 < 20))), (41, .int .i64 x8_6.2)]) (bx' := []) (by kernel_rfl) ?_
              refine O.q (v := .bool false) (some 42) (Qu.eqv (u := .bool (x8_6.2 != 0)) (v := .bool false) (0, 0) [] (by kernel_rfl) (congrArg Value.bool hc50)) (by kernel_rfl) ?_
              refine O.pure 5 [] [0, 1, 5, 7, 8, 9, 20, 21, 44, 45, 46, 47] [] (fr' := [(0, .slice h0.1 a0.length h0.2), (1, .int .i64 a1), (5, .slice g37.1.1 s37.1.length g37.1.2), (7, .slice g37.2.1 s37.2.2.1.length g37.2.2), (8, .int .i64 s37.2.2.2), (9, .slice p8_6.1 x8_6.1.length p8_6.2), (20, .int .i64 s37.2.2.2), (21, .bool (decide (s37.2.2.2 < 20))), (44, .slice p8_6.1 x8_6.1.length p8_6.2), (45, .int .i64 (x8_6.1.length : Int)), (46, .bool (decide ((x8_6.1.length : Int) < 8))), (47, .bool (decide ((x8_6.1.length : Int) < 8)))]) (bx' := []) (by kernel_rfl) ?_
              refine O.nil (by kernel_rfl) ?_
              rcases condE H with ⟨hc51, H⟩ | ⟨hc51, H⟩
              · refine J.condT (x := .tmp 47) (t := (decide ((x8_6.1.length : Int) < 8))) (by kernel_rfl) (by kernel_rfl) hc51 ?_
                refine J.seq (by kernel_rfl) ?_
                refine J.region (by kernel_rfl) ?_
                refine O.pure 1 [] [4] [] (fr' := [(4, .bool false)]) (bx' := []) (by kernel_rfl) ?_
                refine O.nil (by kernel_rfl) ?_
                obtain rfl := Option.some.inj H
                obtain rfl := hj1.2 _ rfl
                exact J.doneS [] [] [] [] [] () (vs := [.bool false]) (by kernel_rfl) (by kernel_rfl) (by kernel_rfl) (by kernel_rfl) (by kernel_rfl) (by decide)
              · refine J.condF (x := .tmp 47) (t := (decide ((x8_6.1.length : Int) < 8))) (by kernel_rfl) (by kernel_rfl) hc51 ?_
                refine J.skip (by kernel_rfl) ?_
                refine J.seq (by kernel_rfl) ?_
                refine J.region (by kernel_rfl) ?_
                refine O.pure 3 [] [0, 1, 5, 6, 7, 8, 9, 20, 21, 44, 45, 46] [] (fr' := [(0, .slice h0.1 a0.length h0.2), (1, .int .i64 a1), (5, .slice g37.1.1 s37.1.length g37.1.2), (6, .int .i64 (x8_6.1.length : Int)), (7, .slice g37.2.1 s37.2.2.1.length g37.2.2), (8, .int .i64 s37.2.2.2), (9, .slice p8_6.1 x8_6.1.length p8_6.2), (20, .int .i64 s37.2.2.2), (21, .bool (decide (s37.2.2.2 < 20))), (44, .slice p8_6.1 x8_6.1.length p8_6.2), (45, .int .i64 (x8_6.1.length : Int)), (46, .bool (decide ((x8_6.1.length : Int) < 8)))]) (bx' := []) (by kernel_rfl) ?_
                refine O.nil (by kernel_rfl) ?_
                refine J.seq (by kernel_rfl) ?_
                obtain ⟨y12_2, hy12_2, H⟩ := bindE H
                have hy12_2a := (appE hy12_2).1
                refine J.region (by kernel_rfl) ?_
                refine O.pure 2 [] [0, 1, 5, 6, 7, 8, 20, 21, 44, 45, 46, 50, 51] [] (fr' := [(0, .slice h0.1 a0.length h0.2), (1, .int .i64 a1), (5, .slice g37.1.1 s37.1.length g37.1.2), (6, .int .i64 (x8_6.1.length : Int)), (7, .slice g37.2.1 s37.2.2.1.length g37.2.2), (8, .int .i64 s37.2.2.2), (20, .int .i64 s37.2.2.2), (21, .bool (decide (s37.2.2.2 < 20))), (44, .slice p8_6.1 x8_6.1.length p8_6.2), (45, .int .i64 (x8_6.1.length : Int)), (46, .bool (decide ((x8_6.1.length : Int) < 8))), (50, .slice g37.1.1 s37.1.length g37.1.2), (51, .slice p8_6.1 x8_6.1.length p8_6.2)]) (bx' := []) (by kernel_rfl) ?_
                refine O.e (some 52) (Ev.mono (fun w hS => hS.freezeH (h := p8_6) (xs := x8_6.1)) (Ev.mono (fun w hS => hS.rowsel [1, 0, 2] rfl (by decide)) (Ev.appSl (d := (Kd.int .u8)) (ys := x8_6.1) (A := p8_6.1) (c := p8_6.2) (x := .tmp 50) (y := .tmp 51) (t := 22) (bytes := 1) 0 (by kernel_rfl) (by kernel_rfl) (by kernel_rfl) rfl (by kernel_rfl) (by decide) hy12_2a))) (by kernel_rfl) (fun p12_2 => ?_)
                refine O.pure 1 [] [0, 1, 5, 6, 7, 8, 20, 21, 44, 45, 46] [] (fr' := [(0, .slice h0.1 a0.length h0.2), (1, .int .i64 a1), (5, .slice p12_2.1 (s37.1 ++ x8_6.1).length p12_2.2), (6, .int .i64 (x8_6.1.length : Int)), (7, .slice g37.2.1 s37.2.2.1.length g37.2.2), (8, .int .i64 s37.2.2.2), (20, .int .i64 s37.2.2.2), (21, .bool (decide (s37.2.2.2 < 20))), (44, .slice p8_6.1 x8_6.1.length p8_6.2), (45, .int .i64 (x8_6.1.length : Int)), (46, .bool (decide ((x8_6.1.length : Int) < 8)))]) (bx' := []) (by kernel_rfl) ?_
                refine O.nil (by kernel_rfl) ?_
                obtain ⟨x13_3, hx13_3, H⟩ := bindE H
                obtain ⟨hx13_3a, hx13_3⟩ := idxE hx13_3
                obtain ⟨y13_6, hy13_6, H⟩ := bindE H
                have hy13_6a := (appE hy13_6).1
                refine J.region (by kernel_rfl) ?_
                refine O.pure 3 [] [0, 1, 5, 6, 7, 8, 20, 21, 44, 45, 46, 53, 54, 55] [] (fr' := [(0, .slice h0.1 a0.length h0.2), (1, .int .i64 a1), (5, .slice p12_2.1 (s37.1 ++ x8_6.1).length p12_2.2), (6, .int .i64 (x8_6.1.length : Int)), (7, .slice g37.2.1 s37.2.2.1.length g37.2.2), (8, .int .i64 s37.2.2.2), (20, .int .i64 s37.2.2.2), (21, .bool (decide (s37.2.2.2 < 20))), (44, .slice p8_6.1 x8_6.1.length p8_6.2), (45, .int .i64 (x8_6.1.length : Int)), (46, .bool (decide ((x8_6.1.length : Int) < 8))), (53, .slice g37.2.1 s37.2.2.1.length g37.2.2), (54, .slice h0.1 a0.length h0.2), (55, .int .i64 s37.2.2.2)]) (bx' := []) (by kernel_rfl) ?_
                refine O.open (d := (Kd.slice (Kd.int .u8))) (h := h0) (i := s37.2.2.2) 3 rfl hx13_3 (Lay.slice _ _) (fun p13_3 hp13_3A => ?_)
                refine O.q (v := .pointer (some ⟨p13_3.1, p13_3.2.1 + s37.2.2.2.toNat * 1, none⟩)) (some 56) (Qu.idx (t := 41) (x := .tmp 54) (y := .tmp 55) (c := h0.2) (kk := .i64) (sz := 1) (by kernel_rfl) (by kernel_rfl) (by kernel_rfl) (by kernel_rfl) hx13_3a (idx_lt hx13_3) hp13_3A) (by kernel_rfl) ?_
                refine O.pure 1 [(0, 0)] [0, 1, 5, 6, 7, 8, 20, 21, 44, 45, 46, 53, 57] [p13_3.1, p13_3.2.1 + s37.2.2.2.toNat * 1] (fr' := [(0, .slice h0.1 a0.length h0.2), (1, .int .i64 a1), (5, .slice p12_2.1 (s37.1 ++ x8_6.1).length p12_2.2), (6, .int .i64 (x8_6.1.length : Int)), (7, .slice g37.2.1 s37.2.2.1.length g37.2.2), (8, .int .i64 s37.2.2.2), (20, .int .i64 s37.2.2.2), (21, .bool (decide (s37.2.2.2 < 20))), (44, .slice p8_6.1 x8_6.1.length p8_6.2), (45, .int .i64 (x8_6.1.length : Int)), (46, .bool (decide ((x8_6.1.length : Int) < 8))), (53, .slice g37.2.1 s37.2.2.1.length g37.2.2), (57, .slice p13_3.2.2.1 x13_3.length p13_3.2.2.2)]) (bx' := []) (by kernel_rfl) ?_
                refine O.e (some 58) (Ev.mono (fun w hS => hS.rowsel [2, 0, 1] rfl (by decide)) (Ev.lit (t := 41) (len := 1) (parts := #[(0, .tmp 57)]) (ps := [(0, .slice p13_3.2.2.1 x13_3.length p13_3.2.2.2)]) (cs := [.slice p13_3.2.2.1 x13_3.length p13_3.2.2.2]) (e := 22) (Kd.slice (Kd.int .u8)) ([x13_3] : List (List Int)) (by kernel_rfl) (by kernel_rfl) (by kernel_rfl) (by kernel_rfl) (by kernel_rfl) (by decide) (fun w' hφ => (Els.cons (c := [.slice p13_3.2.2.1 x13_3.length p13_3.2.2.2]) (⟨p13_3.2.2.1, p13_3.2.2.2, rfl, hφ _ (List.mem_of_getElem? (i := 0) rfl)⟩) (Els.nil _ _ _))))) (by kernel_rfl) (fun p13_5 => ?_)
                refine O.e (some 59) (Ev.appLit (x := .tmp 53) (y := .tmp 58) (t := 41) (bytes := 24) (by kernel_rfl) (by kernel_rfl) (by kernel_rfl) (by kernel_rfl) (by kernel_rfl) (by decide) hy13_6a) (by kernel_rfl) (fun p13_6 => ?_)
                refine O.pure 1 [] [0, 1, 5, 6, 7, 8, 20, 21, 44, 45, 46] [] (fr' := [(0, .slice h0.1 a0.length h0.2), (1, .int .i64 a1), (5, .slice p12_2.1 (s37.1 ++ x8_6.1).length p12_2.2), (6, .int .i64 (x8_6.1.length : Int)), (7, .slice p13_6.1 (s37.2.2.1 ++ ([x13_3] : List (List Int))).length p13_6.2), (8, .int .i64 s37.2.2.2), (20, .int .i64 s37.2.2.2), (21, .bool (decide (s37.2.2.2 < 20))), (44, .slice p8_6.1 x8_6.1.length p8_6.2), (45, .int .i64 (x8_6.1.length : Int)), (46, .bool (decide ((x8_6.1.length : Int) < 8)))]) (bx' := []) (by kernel_rfl) ?_
                refine O.nil (by kernel_rfl) ?_
                refine J.out ?_
                refine J.region (by kernel_rfl) ?_
                refine O.pure 3 [] [0, 1, 5, 6, 7, 8, 20, 21, 44, 45, 46] [] (fr' := [(0, .slice h0.1 a0.length h0.2), (1, .int .i64 a1), (5, .slice p12_2.1 (s37.1 ++ x8_6.1).length p12_2.2), (6, .int .i64 (x8_6.1.length : Int)), (7, .slice p13_6.1 (s37.2.2.1 ++ ([x13_3] : List (List Int))).length p13_6.2), (8, .int .i64 (IntKind.wrap .i64 (s37.2.2.2 + 1))), (20, .int .i64 s37.2.2.2), (21, .bool (decide (s37.2.2.2 < 20))), (44, .slice p8_6.1 x8_6.1.length p8_6.2), (45, .int .i64 (x8_6.1.length : Int)), (46, .bool (decide ((x8_6.1.length : Int) < 8)))]) (bx' := []) (by kernel_rfl) ?_
                refine O.nil (by kernel_rfl) ?_
                exact J.conv2 [0, 1, 5, 6, 7, 8] [4] [] [1, 0] (by kernel_rfl) (by kernel_rfl) (by kernel_rfl) (by kernel_rfl) (by decide) (ih37 ((s37.1 ++ x8_6.1), (x8_6.1.length : Int), (s37.2.2.1 ++ ([x13_3] : List (List Int))), (IntKind.wrap .i64 (s37.2.2.2 + 1))) (p12_2, p13_6) H)
        · refine J.condF (x := .tmp 22) (t := (decide (s37.2.2.2 < 20))) (by kernel_rfl) (by kernel_rfl) hc48 ?_
          refine J.exit (id := 0) (by kernel_rfl) rfl ?_
          obtain rfl := Option.some.inj H
          exact J.conv2 [1, 5, 6, 7] [0] [] [0, 1] (by kernel_rfl) (by kernel_rfl) (by kernel_rfl) (by kernel_rfl) (by decide) (hj1.1 _ rfl (g37.1, g37.2))
      · refine J.region (by kernel_rfl) ?_
        refine O.pure 3 [] [0, 1, 5, 6, 7, 8, 15, 17] [] (fr' := [(0, .slice h0.1 a0.length h0.2), (1, .int .i64 a1), (5, .slice g37.1.1 s37.1.length g37.1.2), (6, .int .i64 s37.2.1), (7, .slice g37.2.1 s37.2.2.1.length g37.2.2), (8, .int .i64 s37.2.2.2), (15, .int .i64 s37.2.2.2), (17, .int .i64 (a0.length : Int))]) (bx' := []) (by kernel_rfl) ?_
        refine O.q (v := .bool false) (some 18) (Qu.eqv (u := .bool (decide (s37.2.2.2 < (a0.length : Int)))) (v := .bool false) (0, 0) [] (by kernel_rfl) (congrArg Value.bool hc47)) (by kernel_rfl) ?_
        refine O.pure 4 [] [0, 1, 5, 6, 7, 8, 20, 21, 22] [] (fr' := [(0, .slice h0.1 a0.length h0.2), (1, .int .i64 a1), (5, .slice g37.1.1 s37.1.length g37.1.2), (6, .int .i64 s37.2.1), (7, .slice g37.2.1 s37.2.2.1.length g37.2.2), (8, .int .i64 s37.2.2.2), (20, undef), (21, undef), (22, .bool false)]) (bx' := []) (by kernel_rfl) ?_
        refine O.nil (by kernel_rfl) ?_
        refine J.cond (o := .tmp 22) false (by kernel_rfl) (by kernel_rfl) ?_
        refine J.exit (id := 0) (by kernel_rfl) rfl ?_
        obtain rfl := Option.some.inj H
        exact J.conv2 [1, 5, 6, 7] [0] [] [0, 1] (by kernel_rfl) (by kernel_rfl) (by kernel_rfl) (by kernel_rfl) (by decide) (hj1.1 _ rfl (g37.1, g37.2))
    · refine J.nilrow (Kd.int .u8) 5 ?_
      refine J.nilrow (Kd.slice (Kd.int .u8)) 22 ?_
      exact J.conv2 [0, 1, 5, 6, 7, 8] [0] [] [1, 0] (by kernel_rfl) (by kernel_rfl) (by kernel_rfl) (by kernel_rfl) (by decide) h_
def haywainlaw02_CodeRuns.Pure : Prop := ∀ (a0 : List (List Int)) (a1 : Int), (a0.length * 24 ≤ 140737488351232 ∧ ∀ x_ ∈ a0, x_.length * 1 ≤ 140737488351232 ∧ ∀ x__ ∈ x_, (Lit.int .u8 x__).wf = true) → ((Lit.int .i64 a1).wf = true) → ∃ K, haywainlaw02_CodeRuns.f K a0 a1 = some true
end Go.Proofs.Ytpachjomjoaipaa.G
