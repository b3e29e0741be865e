/- Functions of the program as plain Lean, with their contracts (part 0); printed by a program of this session. -/
import Derived.Test.YtpachjomjoaipaaHw
import Derived.Test.YtpachjomjoaipaaProg
set_option linter.unusedVariables false
set_option linter.unusedSimpArgs false
namespace Go.Proofs.Ytpachjomjoaipaa.G
open Go Go.RowKit Go.Hw
/-! ### haywain/haywainlaw02.great: function 10 -/
def haywainlaw02_great.f (K : Nat) (a0 : List Int) : Option Bool := some ((decide ((a0.length : Int) > 10000)))
set_option maxRecDepth 100000 in
set_option maxHeartbeats 1000000 in
theorem haywainlaw02_great.con (K : Nat) (a0 : List Int) (h0 : Hd) (r : Bool) (X : Nat → Nat → Prop) (w : World) (hS : St X w [] [] [] [] [Rd (Kd.int .u8) h0.1 h0.2 a0] w) (H : haywainlaw02_great.f K a0 = some r) :
    Cn Try.prog 10 [.slice h0.1 a0.length h0.2] X w [] (fun i : Unit => .bool r) (fun i => []) (fun i => []) (fun i => []) := by
  refine Cn.of Try.func10 (by kernel_rfl) hS ?_
  unfold haywainlaw02_great.f at H
  refine J.seq (by kernel_rfl) ?_
  refine J.region (by kernel_rfl) ?_
  refine O.pure 1 [] [0] [] (fr' := [(0, .slice h0.1 a0.length h0.2)]) (bx' := []) (by kernel_rfl) ?_
  refine O.nil (by kernel_rfl) ?_
  refine J.seq (by kernel_rfl) ?_
  refine J.region (by kernel_rfl) ?_
  refine O.pure 4 [] [2] [] (fr' := [(2, .bool (decide ((a0.length : Int) > 10000)))]) (bx' := []) (by kernel_rfl) ?_
  refine O.nil (by kernel_rfl) ?_
  obtain rfl := Option.some.inj H
  exact J.doneS [] [] [] [] [] () (vs := [.bool (decide ((a0.length : Int) > 10000))]) (by kernel_rfl) (by kernel_rfl) (by kernel_rfl) (by kernel_rfl) (by kernel_rfl) (by decide)
/-! ### haywain/code.Sum: function 12 -/
def code_Sum.l80 (K : Nat) : Nat → (Int × Int) → Option Int
  | 0, _ => none
  | k + 1, s80 => cond (decide (s80.2 < 8)) (cond ((andI .u32 s80.1 1) == 1) (code_Sum.l80 K k ((xorI .u32 (shrI .u32 s80.1 1) 3988292384), (IntKind.wrap .i64 (s80.2 + 1)))) (code_Sum.l80 K k ((shrI .u32 s80.1 1), (IntKind.wrap .i64 (s80.2 + 1))))) (some (s80.1))
def code_Sum.l1 (K : Nat) (a0 : List Int) : Nat → (Int × Int) → Option Int
  | 0, _ => none
  | k + 1, s1 => cond (decide (s1.2 < (a0.length : Int))) (((idxO a0 s1.2).bind fun x4_0 => (code_Sum.l80 K K ((xorI .u32 s1.1 (IntKind.wrap .u32 x4_0)), 0) : Option Int).bind fun o73 : Int => some (o73) : Option Int).bind fun o59 : Int => code_Sum.l1 K a0 k (o59, (IntKind.wrap .i64 (s1.2 + 1)))) (some ((notI .u32 s1.1)))
def code_Sum.f (K : Nat) (a0 : List Int) : Option Int := code_Sum.l1 K a0 K (4294967295, 0)
set_option maxRecDepth 100000 in
set_option maxHeartbeats 1000000 in
theorem code_Sum.con (K : Nat) (a0 : List Int) (h0 : Hd) (r : Int) (X : Nat → Nat → Prop) (w : World) (hS : St X w [] [] [] [] [Rd (Kd.int .u8) h0.1 h0.2 a0] w) (H : code_Sum.f K a0 = some r) :
    Cn Try.prog 12 [.slice h0.1 a0.length h0.2] X w [] (fun i : Unit => .int .u32 r) (fun i => []) (fun i => []) (fun i => []) := by
  refine Cn.of Try.func12 (by kernel_rfl) hS ?_
  unfold code_Sum.f at H
  refine J.seq (by kernel_rfl) ?_
  refine J.region (by kernel_rfl) ?_
  refine O.pure 1 [] [0] [] (fr' := [(0, .slice h0.1 a0.length h0.2)]) (bx' := []) (by kernel_rfl) ?_
  refine O.nil (by kernel_rfl) ?_
  refine J.seq (by kernel_rfl) ?_
  refine J.region (by kernel_rfl) ?_
  refine O.pure 1 [] [0, 3] [] (fr' := [(0, .slice h0.1 a0.length h0.2), (3, .int .u32 4294967295)]) (bx' := []) (by kernel_rfl) ?_
  refine O.nil (by kernel_rfl) ?_
  refine J.seq (by kernel_rfl) ?_
  refine J.seq (by kernel_rfl) ?_
  refine J.region (by kernel_rfl) ?_
  refine O.pure 3 [] [3, 7, 8, 9] [] (fr' := [(3, .int .u32 4294967295), (7, .slice h0.1 a0.length h0.2), (8, .int .i64 (a0.length : Int)), (9, .int .i64 0)]) (bx' := []) (by kernel_rfl) ?_
  refine O.nil (by kernel_rfl) ?_
  refine J.block (id := 0) (by kernel_rfl) ?_
  refine J.loopI (σ := Int × Int) (γ := Unit) (f := fun m_ s_ => code_Sum.l1 K a0 m_ s_) (fun s1 g1 => [(3, .int .u32 s1.1), (7, .slice h0.1 a0.length h0.2), (8, .int .i64 (a0.length : Int)), (9, .int .i64 s1.2)]) (fun s1 g1 => St X w [] [] [] [] [Rd (Kd.int .u8) h0.1 h0.2 a0]) K (4294967295, 0) () (by kernel_rfl) H (fun _ => rfl) (fun m_ s1 H ih1 g1 => ?_) (fun h_ => ?_)
  · unfold code_Sum.l1 at H
    refine J.seq (by kernel_rfl) ?_
    refine J.region (by kernel_rfl) ?_
    refine O.pure 1 [] [3, 7, 8, 9, 10] [] (fr' := [(3, .int .u32 s1.1), (7, .slice h0.1 a0.length h0.2), (8, .int .i64 (a0.length : Int)), (9, .int .i64 s1.2), (10, .bool (decide (s1.2 < (a0.length : Int))))]) (bx' := []) (by kernel_rfl) ?_
    refine O.nil (by kernel_rfl) ?_
    refine J.seq (by kernel_rfl) ?_
    rcases condE H with ⟨hc58, H⟩ | ⟨hc58, H⟩
    · refine J.condT (x := .tmp 10) (t := (decide (s1.2 < (a0.length : Int)))) (by kernel_rfl) (by kernel_rfl) hc58 ?_
      refine J.skip (by kernel_rfl) ?_
      refine J.seq (by kernel_rfl) ?_
      refine J.join (α := Int) (γ := Unit) (fun o59 q59 => [(3, .int .u32 o59), (7, .slice h0.1 a0.length h0.2), (8, .int .i64 (a0.length : Int)), (9, .int .i64 s1.2)]) (fun o59 q59 => St X w [] [] [] [] [Rd (Kd.int .u8) h0.1 h0.2 a0]) H (fun o59 q59 H => ?_) (fun o59 H hj59 => ?_)
      · refine J.region (by kernel_rfl) ?_
        refine O.pure 2 [] [3, 7, 8, 9] [] (fr' := [(3, .int .u32 o59), (7, .slice h0.1 a0.length h0.2), (8, .int .i64 (a0.length : Int)), (9, .int .i64 (IntKind.wrap .i64 (s1.2 + 1)))]) (bx' := []) (by kernel_rfl) ?_
        refine O.nil (by kernel_rfl) ?_
        exact J.conv2 [3, 7, 8, 9] [0] [] [] (by kernel_rfl) (by kernel_rfl) (by kernel_rfl) (by kernel_rfl) (by decide) (ih1 (o59, (IntKind.wrap .i64 (s1.2 + 1))) () H)
      · refine J.block (id := 1) (by kernel_rfl) ?_
        refine J.seq (by kernel_rfl) ?_
        obtain ⟨x4_0, hx4_0, H⟩ := bindE H
        obtain ⟨hx4_0a, hx4_0⟩ := idxE hx4_0
        refine J.region (by kernel_rfl) ?_
        refine O.open (d := (Kd.int .u8)) (h := h0) (i := s1.2) 0 rfl hx4_0 (Lay.int _ _) (fun p4_0 hp4_0A => ?_)
        refine O.q (v := .pointer (some ⟨p4_0.1, p4_0.2.1 + s1.2.toNat * 1, none⟩)) (some 11) (Qu.idx (t := 22) (x := .tmp 7) (y := .tmp 9) (c := h0.2) (kk := .i64) (sz := 1) (by kernel_rfl) (by kernel_rfl) (by kernel_rfl) (by kernel_rfl) hx4_0a (idx_lt hx4_0) hp4_0A) (by kernel_rfl) ?_
        refine O.pure 2 [(0, 0)] [3, 5, 7, 8, 9] [p4_0.1, p4_0.2.1 + s1.2.toNat * 1] (fr' := [(3, .int .u32 s1.1), (5, .int .u8 x4_0), (7, .slice h0.1 a0.length h0.2), (8, .int .i64 (a0.length : Int)), (9, .int .i64 s1.2)]) (bx' := []) (by kernel_rfl) ?_
        refine O.nil (by kernel_rfl) ?_
        refine J.seq (by kernel_rfl) ?_
        refine J.region (by kernel_rfl) ?_
        refine O.pure 5 [] [3, 7, 8, 9] [] (fr' := [(3, .int .u32 (xorI .u32 s1.1 (IntKind.wrap .u32 x4_0))), (7, .slice h0.1 a0.length h0.2), (8, .int .i64 (a0.length : Int)), (9, .int .i64 s1.2)]) (bx' := []) (by kernel_rfl) ?_
        refine O.nil (by kernel_rfl) ?_
        refine J.seq (by kernel_rfl) ?_
        refine J.region (by kernel_rfl) ?_
        refine O.pure 1 [] [3, 7, 8, 9, 17] [] (fr' := [(3, .int .u32 (xorI .u32 s1.1 (IntKind.wrap .u32 x4_0))), (7, .slice h0.1 a0.length h0.2), (8, .int .i64 (a0.length : Int)), (9, .int .i64 s1.2), (17, .int .i64 0)]) (bx' := []) (by kernel_rfl) ?_
        refine O.nil (by kernel_rfl) ?_
        refine J.join (α := Int) (γ := Unit) (fun o73 q73 => [(3, .int .u32 o73), (7, .slice h0.1 a0.length h0.2), (8, .int .i64 (a0.length : Int)), (9, .int .i64 s1.2)]) (fun o73 q73 => St X w [] [] [] [] [Rd (Kd.int .u8) h0.1 h0.2 a0]) H (fun o73 q73 H => ?_) (fun o73 H hj73 => ?_)
        · refine J.out ?_
          obtain rfl := Option.some.inj H
          exact J.conv2 [3, 7, 8, 9] [0] [] [] (by kernel_rfl) (by kernel_rfl) (by kernel_rfl) (by kernel_rfl) (by decide) (hj59 ())
        · refine J.block (id := 2) (by kernel_rfl) ?_
          refine J.loopI (σ := Int × Int) (γ := Unit) (f := fun m_ s_ => code_Sum.l80 K m_ s_) (fun s80 g80 => [(3, .int .u32 s80.1), (7, .slice h0.1 a0.length h0.2), (8, .int .i64 (a0.length : Int)), (9, .int .i64 s1.2), (17, .int .i64 s80.2)]) (fun s80 g80 => St X w [] [] [] [] [Rd (Kd.int .u8) h0.1 h0.2 a0]) K ((xorI .u32 s1.1 (IntKind.wrap .u32 x4_0)), 0) () (by kernel_rfl) H (fun _ => rfl) (fun m_ s80 H ih80 g80 => ?_) (fun h_ => ?_)
          · unfold code_Sum.l80 at H
            refine J.seq (by kernel_rfl) ?_
            refine J.region (by kernel_rfl) ?_
            refine O.pure 1 [] [3, 7, 8, 9, 17, 18] [] (fr' := [(3, .int .u32 s80.1), (7, .slice h0.1 a0.length h0.2), (8, .int .i64 (a0.length : Int)), (9, .int .i64 s1.2), (17, .int .i64 s80.2), (18, .bool (decide (s80.2 < 8)))]) (bx' := []) (by kernel_rfl) ?_
            refine O.nil (by kernel_rfl) ?_
            refine J.seq (by kernel_rfl) ?_
            rcases condE H with ⟨hc84, H⟩ | ⟨hc84, H⟩
            · refine J.condT (x := .tmp 18) (t := (decide (s80.2 < 8))) (by kernel_rfl) (by kernel_rfl) hc84 ?_
              refine J.skip (by kernel_rfl) ?_
              refine J.seq (by kernel_rfl) ?_
              refine J.block (id := 3) (by kernel_rfl) ?_
              refine J.seq (by kernel_rfl) ?_
              refine J.region (by kernel_rfl) ?_
              refine O.pure 3 [] [3, 6, 7, 8, 9, 17] [] (fr' := [(3, .int .u32 s80.1), (6, .int .u32 (andI .u32 s80.1 1)), (7, .slice h0.1 a0.length h0.2), (8, .int .i64 (a0.length : Int)), (9, .int .i64 s1.2), (17, .int .i64 s80.2)]) (bx' := []) (by kernel_rfl) ?_
              refine O.nil (by kernel_rfl) ?_
              refine J.seq (by kernel_rfl) ?_
              refine J.region (by kernel_rfl) ?_
              refine O.pure 1 [] [3, 6, 7, 8, 9, 17, 21] [] (fr' := [(3, .int .u32 s80.1), (6, .int .u32 (andI .u32 s80.1 1)), (7, .slice h0.1 a0.length h0.2), (8, .int .i64 (a0.length : Int)), (9, .int .i64 s1.2), (17, .int .i64 s80.2), (21, .int .u32 s80.1)]) (bx' := []) (by kernel_rfl) ?_
              refine O.q (v := .int .u32 (shrI .u32 s80.1 1)) (some 22) (Qu.shr (t := 25) (t' := 39) (x := .tmp 21) (y := .const (.int .u64 1)) (k := .u32) (k' := .u64) (a := s80.1) (b := 1) (by kernel_rfl) (by kernel_rfl) (by kernel_rfl) (by decide)) (by kernel_rfl) ?_
              refine O.pure 1 [] [3, 6, 7, 8, 9, 17] [] (fr' := [(3, .int .u32 (shrI .u32 s80.1 1)), (6, .int .u32 (andI .u32 s80.1 1)), (7, .slice h0.1 a0.length h0.2), (8, .int .i64 (a0.length : Int)), (9, .int .i64 s1.2), (17, .int .i64 s80.2)]) (bx' := []) (by kernel_rfl) ?_
              refine O.nil (by kernel_rfl) ?_
              refine J.seq (by kernel_rfl) ?_
              refine J.region (by kernel_rfl) ?_
              refine O.pure 2 [] [3, 7, 8, 9, 17, 24] [] (fr' := [(3, .int .u32 (shrI .u32 s80.1 1)), (7, .slice h0.1 a0.length h0.2), (8, .int .i64 (a0.length : Int)), (9, .int .i64 s1.2), (17, .int .i64 s80.2), (24, .bool ((andI .u32 s80.1 1) == 1))]) (bx' := []) (by kernel_rfl) ?_
              refine O.nil (by kernel_rfl) ?_
              rcases condE H with ⟨hc85, H⟩ | ⟨hc85, H⟩
              · refine J.condT (x := .tmp 24) (t := ((andI .u32 s80.1 1) == 1)) (by kernel_rfl) (by kernel_rfl) hc85 ?_
                refine J.region (by kernel_rfl) ?_
                refine O.pure 3 [] [3, 7, 8, 9, 17] [] (fr' := [(3, .int .u32 (xorI .u32 (shrI .u32 s80.1 1) 3988292384)), (7, .slice h0.1 a0.length h0.2), (8, .int .i64 (a0.length : Int)), (9, .int .i64 s1.2), (17, .int .i64 s80.2)]) (bx' := []) (by kernel_rfl) ?_
                refine O.nil (by kernel_rfl) ?_
                refine J.out ?_
                refine J.region (by kernel_rfl) ?_
                refine O.pure 2 [] [3, 7, 8, 9, 17] [] (fr' := [(3, .int .u32 (xorI .u32 (shrI .u32 s80.1 1) 3988292384)), (7, .slice h0.1 a0.length h0.2), (8, .int .i64 (a0.length : Int)), (9, .int .i64 s1.2), (17, .int .i64 (IntKind.wrap .i64 (s80.2 + 1)))]) (bx' := []) (by kernel_rfl) ?_
                refine O.nil (by kernel_rfl) ?_
                exact J.conv2 [3, 7, 8, 9, 17] [0] [] [] (by kernel_rfl) (by kernel_rfl) (by kernel_rfl) (by kernel_rfl) (by decide) (ih80 ((xorI .u32 (shrI .u32 s80.1 1) 3988292384), (IntKind.wrap .i64 (s80.2 + 1))) () H)
              · refine J.condF (x := .tmp 24) (t := ((andI .u32 s80.1 1) == 1)) (by kernel_rfl) (by kernel_rfl) hc85 ?_
                refine J.skip (by kernel_rfl) ?_
                refine J.out ?_
                refine J.region (by kernel_rfl) ?_
                refine O.pure 2 [] [3, 7, 8, 9, 17] [] (fr' := [(3, .int .u32 (shrI .u32 s80.1 1)), (7, .slice h0.1 a0.length h0.2), (8, .int .i64 (a0.length : Int)), (9, .int .i64 s1.2), (17, .int .i64 (IntKind.wrap .i64 (s80.2 + 1)))]) (bx' := []) (by kernel_rfl) ?_
                refine O.nil (by kernel_rfl) ?_
                exact J.conv2 [3, 7, 8, 9, 17] [0] [] [] (by kernel_rfl) (by kernel_rfl) (by kernel_rfl) (by kernel_rfl) (by decide) (ih80 ((shrI .u32 s80.1 1), (IntKind.wrap .i64 (s80.2 + 1))) () H)
            · refine J.condF (x := .tmp 18) (t := (decide (s80.2 < 8))) (by kernel_rfl) (by kernel_rfl) hc84 ?_
              refine J.exit (id := 2) (by kernel_rfl) rfl ?_
              obtain rfl := Option.some.inj H
              exact J.conv2 [3, 7, 8, 9] [0] [] [] (by kernel_rfl) (by kernel_rfl) (by kernel_rfl) (by kernel_rfl) (by decide) (hj73 ())
          · exact J.conv2 [3, 7, 8, 9, 17] [0] [] [] (by kernel_rfl) (by kernel_rfl) (by kernel_rfl) (by kernel_rfl) (by decide) h_
    · refine J.condF (x := .tmp 10) (t := (decide (s1.2 < (a0.length : Int)))) (by kernel_rfl) (by kernel_rfl) hc58 ?_
      refine J.exit (id := 0) (by kernel_rfl) rfl ?_
      refine J.seq (by kernel_rfl) ?_
      refine J.region (by kernel_rfl) ?_
      refine O.pure 3 [] [2] [] (fr' := [(2, .int .u32 (notI .u32 s1.1))]) (bx' := []) (by kernel_rfl) ?_
      refine O.nil (by kernel_rfl) ?_
      obtain rfl := Option.some.inj H
      exact J.doneS [] [] [] [] [] () (vs := [.int .u32 (notI .u32 s1.1)]) (by kernel_rfl) (by kernel_rfl) (by kernel_rfl) (by kernel_rfl) (by kernel_rfl) (by decide)
  · exact J.conv2 [3, 7, 8, 9] [0] [] [] (by kernel_rfl) (by kernel_rfl) (by kernel_rfl) (by kernel_rfl) (by decide) h_
/-! ### haywain/code.put: function 26 -/
def code_put.l1 (K : Nat) (a0 : Int) (a1 : Int) : Nat → ((List Int) × Int) → Option (List Int)
  | 0, _ => none
  | k + 1, s1 => cond (decide (s1.2 < a1)) ((shO (IntKind.wrap .i64 (8 * s1.2))).bind fun z5_8 => (idxO s1.1 (IntKind.wrap .i64 ((IntKind.wrap .i64 (a1 - 1)) - s1.2))).bind fun x5_10 => code_put.l1 K a0 a1 k ((s1.1.set ((IntKind.wrap .i64 ((IntKind.wrap .i64 (a1 - 1)) - s1.2)).toNat) (IntKind.wrap .u8 (shrI .u64 a0 (IntKind.wrap .i64 (8 * s1.2))))), (IntKind.wrap .i64 (s1.2 + 1)))) (some (s1.1))
def code_put.f (K : Nat) (a0 : Int) (a1 : Int) : Option (List Int) := (makO 1 a1).bind fun z1_1 => code_put.l1 K a0 a1 K ((List.replicate a1.toNat 0 : List Int), 0)
set_option maxRecDepth 100000 in
set_option maxHeartbeats 1000000 in
theorem code_put.con (K : Nat) (a0 : Int) (a1 : Int) (r : (List Int)) (X : Nat → Nat → Prop) (w : World) (hS : St X w [] [] [] [] [] w) (H : code_put.f K a0 a1 = some r) :
    Cn Try.prog 26 [.int .u64 a0, .int .i64 a1] X w [] (fun i : Hd => .slice i.1 r.length i.2) (fun i => []) (fun i => [mkRow (Kd.int .u8) 5 (.slice i.1 r.length i.2) r]) (fun i => []) := by
  refine Cn.of Try.func26 (by kernel_rfl) hS ?_
  unfold code_put.f at H
  refine J.seq (by kernel_rfl) ?_
  refine J.region (by kernel_rfl) ?_
  refine O.pure 1 [] [0, 1] [] (fr' := [(0, .int .u64 a0), (1, .int .i64 a1)]) (bx' := []) (by kernel_rfl) ?_
  refine O.nil (by kernel_rfl) ?_
  refine J.seq (by kernel_rfl) ?_
  obtain ⟨z1_1, hz1_1, H⟩ := bindE H
  obtain ⟨hz1_1a, hz1_1b⟩ := makE hz1_1
  refine J.region (by kernel_rfl) ?_
  refine O.pure 1 [] [0, 1, 7] [] (fr' := [(0, .int .u64 a0), (1, .int .i64 a1), (7, .int .i64 a1)]) (bx' := []) (by kernel_rfl) ?_
  refine O.e (some 8) (Ev.make (t := 22) (e := 5) (d := (Kd.int .u8)) (x := .tmp 7) (y := .tmp 7) (kl := .i64) (kc := .i64) (m := a1) (bytes := 1) (cz := [.int .u8 0]) 0 (by kernel_rfl) (by kernel_rfl) (by kernel_rfl) (by kernel_rfl) (by kernel_rfl) (by decide) hz1_1a hz1_1b (fun w' => rfl)) (by kernel_rfl) (fun p1_1 => ?_)
  refine O.pure 1 [] [0, 1, 5] [] (fr' := [(0, .int .u64 a0), (1, .int .i64 a1), (5, .slice ((some ⟨p1_1, 0, none⟩, a1.toNat) : Hd).1 a1.toNat ((some ⟨p1_1, 0, none⟩, a1.toNat) : Hd).2)]) (bx' := []) (by kernel_rfl) ?_
  refine O.nil (by kernel_rfl) ?_
  refine J.renS [0, 1, 5] (fr1 := [(0, .int .u64 a0), (1, .int .i64 a1), (5, .slice ((some ⟨p1_1, 0, none⟩, a1.toNat) : Hd).1 a1.toNat ((some ⟨p1_1, 0, none⟩, a1.toNat) : Hd).2)]) (bx1 := []) (rw1 := [mkRow (Kd.int .u8) 5 (.slice ((some ⟨p1_1, 0, none⟩, a1.toNat) : Hd).1 a1.toNat ((some ⟨p1_1, 0, none⟩, a1.toNat) : Hd).2) (List.replicate a1.toNat 0 : List Int)]) (fr' := [(0, .int .u64 a0), (1, .int .i64 a1), (5, .slice ((some ⟨p1_1, 0, none⟩, a1.toNat) : Hd).1 (List.replicate a1.toNat 0 : List Int).length ((some ⟨p1_1, 0, none⟩, a1.toNat) : Hd).2)]) (bx' := []) (rw' := [mkRow (Kd.int .u8) 5 (.slice ((some ⟨p1_1, 0, none⟩, a1.toNat) : Hd).1 (List.replicate a1.toNat 0 : List Int).length ((some ⟨p1_1, 0, none⟩, a1.toNat) : Hd).2) (List.replicate a1.toNat 0 : List Int)]) (by kernel_rfl) (by kernel_rfl) (by simp only [List.length_set, List.length_replicate]) ?_
  refine J.seq (by kernel_rfl) ?_
  refine J.seq (by kernel_rfl) ?_
  refine J.region (by kernel_rfl) ?_
  refine O.pure 2 [] [0, 1, 5, 9, 10] [] (fr' := [(0, .int .u64 a0), (1, .int .i64 a1), (5, .slice ((some ⟨p1_1, 0, none⟩, a1.toNat) : Hd).1 (List.replicate a1.toNat 0 : List Int).length ((some ⟨p1_1, 0, none⟩, a1.toNat) : Hd).2), (9, .int .i64 a1), (10, .int .i64 0)]) (bx' := []) (by kernel_rfl) ?_
  refine O.nil (by kernel_rfl) ?_
  refine J.block (id := 0) (by kernel_rfl) ?_
  refine J.loopI (σ := (List Int) × Int) (γ := Hd) (f := fun m_ s_ => code_put.l1 K a0 a1 m_ s_) (fun s1 g1 => [(0, .int .u64 a0), (1, .int .i64 a1), (5, .slice g1.1 s1.1.length g1.2), (9, .int .i64 a1), (10, .int .i64 s1.2)]) (fun s1 g1 => St X w [] [] [mkRow (Kd.int .u8) 5 (.slice g1.1 s1.1.length g1.2) s1.1] [] []) K ((List.replicate a1.toNat 0 : List Int), 0) ((some ⟨p1_1, 0, none⟩, a1.toNat) : Hd) (by kernel_rfl) H (fun _ => rfl) (fun m_ s1 H ih1 g1 => ?_) (fun h_ => ?_)
  · unfold code_put.l1 at H
    refine J.seq (by kernel_rfl) ?_
    refine J.region (by kernel_rfl) ?_
    refine O.pure 1 [] [0, 1, 5, 9, 10, 11] [] (fr' := [(0, .int .u64 a0), (1, .int .i64 a1), (5, .slice g1.1 s1.1.length g1.2), (9, .int .i64 a1), (10, .int .i64 s1.2), (11, .bool (decide (s1.2 < a1)))]) (bx' := []) (by kernel_rfl) ?_
    refine O.nil (by kernel_rfl) ?_
    refine J.seq (by kernel_rfl) ?_
    rcases condE H with ⟨hc4, H⟩ | ⟨hc4, H⟩
    · refine J.condT (x := .tmp 11) (t := (decide (s1.2 < a1))) (by kernel_rfl) (by kernel_rfl) hc4 ?_
      refine J.skip (by kernel_rfl) ?_
      refine J.seq (by kernel_rfl) ?_
      refine J.block (id := 1) (by kernel_rfl) ?_
      refine J.seq (by kernel_rfl) ?_
      refine J.region (by kernel_rfl) ?_
      refine O.pure 2 [] [0, 1, 5, 6, 9, 10] [] (fr' := [(0, .int .u64 a0), (1, .int .i64 a1), (5, .slice g1.1 s1.1.length g1.2), (6, .int .i64 s1.2), (9, .int .i64 a1), (10, .int .i64 s1.2)]) (bx' := []) (by kernel_rfl) ?_
      refine O.nil (by kernel_rfl) ?_
      obtain ⟨z5_8, hz5_8, H⟩ := bindE H
      have hz5_8a := shE hz5_8
      obtain ⟨x5_10, hx5_10, H⟩ := bindE H
      obtain ⟨hx5_10a, hx5_10⟩ := idxE hx5_10
      refine J.region (by kernel_rfl) ?_
      refine O.pure 8 [] [0, 1, 5, 9, 10, 13, 17, 18, 20] [] (fr' := [(0, .int .u64 a0), (1, .int .i64 a1), (5, .slice g1.1 s1.1.length g1.2), (9, .int .i64 a1), (10, .int .i64 s1.2), (13, .slice g1.1 s1.1.length g1.2), (17, .int .i64 (IntKind.wrap .i64 ((IntKind.wrap .i64 (a1 - 1)) - s1.2))), (18, .int .u64 a0), (20, .int .i64 (IntKind.wrap .i64 (8 * s1.2)))]) (bx' := []) (by kernel_rfl) ?_
      refine O.q (v := .int .u64 (shrI .u64 a0 (IntKind.wrap .i64 (8 * s1.2)))) (some 21) (Qu.shr (t := 53) (t' := 3) (x := .tmp 18) (y := .tmp 20) (k := .u64) (k' := .i64) (a := a0) (b := (IntKind.wrap .i64 (8 * s1.2))) (by kernel_rfl) (by kernel_rfl) (by kernel_rfl) hz5_8a) (by kernel_rfl) ?_
      refine O.pure 1 [] [0, 1, 5, 9, 10, 13, 17, 22] [] (fr' := [(0, .int .u64 a0), (1, .int .i64 a1), (5, .slice g1.1 s1.1.length g1.2), (9, .int .i64 a1), (10, .int .i64 s1.2), (13, .slice g1.1 s1.1.length g1.2), (17, .int .i64 (IntKind.wrap .i64 ((IntKind.wrap .i64 (a1 - 1)) - s1.2))), (22, .int .u8 (IntKind.wrap .u8 (shrI .u64 a0 (IntKind.wrap .i64 (8 * s1.2)))))]) (bx' := []) (by kernel_rfl) ?_
      refine O.mono (fun w hS => hS.pk) ?_
      refine O.peek (d := (Kd.int .u8)) (hh := g1) (m := s1.1.length) (i := (IntKind.wrap .i64 ((IntKind.wrap .i64 (a1 - 1)) - s1.2))) (by simpa only [List.length_set] using hx5_10) (Lay.int _ _) (fun p5_10 hp5_10A => ?_)
      refine O.q (v := .pointer (some ⟨p5_10.1, 0 + (IntKind.wrap .i64 ((IntKind.wrap .i64 (a1 - 1)) - s1.2)).toNat * 1, none⟩)) (some 23) (Qu.idx (t := 22) (x := .tmp 13) (y := .tmp 17) (len := s1.1.length) (c := g1.2) (kk := .i64) (sz := 1) (by kernel_rfl) (by kernel_rfl) (by kernel_rfl) (by kernel_rfl) hx5_10a (by have := idx_lt hx5_10; simpa only [List.length_set, List.length_replicate] using this) hp5_10A) (by kernel_rfl) ?_
      refine O.e none (Ev.storeR (t := 5) (x := .tmp 23) (y := .tmp 22) (hh := g1) (m := s1.1.length) (g := p5_10.1) (i := (IntKind.wrap .i64 ((IntKind.wrap .i64 (a1 - 1)) - s1.2)).toNat) (f := 0) (s := 1) (u := .pointer (some ⟨p5_10.1, 0 + (IntKind.wrap .i64 ((IntKind.wrap .i64 (a1 - 1)) - s1.2)).toNat * 1, none⟩)) (z := .int .u8 (IntKind.wrap .u8 (shrI .u64 a0 (IntKind.wrap .i64 (8 * s1.2))))) (cs := []) (ncs := [.int .u8 (IntKind.wrap .u8 (shrI .u64 a0 (IntKind.wrap .i64 (8 * s1.2))))]) (IntKind.wrap .u8 (shrI .u64 a0 (IntKind.wrap .i64 (8 * s1.2)))) none (by kernel_rfl) (by kernel_rfl) rfl (by kernel_rfl) hp5_10A (by have := idx_lt hx5_10; simpa only [List.length_set] using this) ⟨by kernel_rfl, by kernel_rfl, by kernel_rfl, by kernel_rfl⟩ ⟨rfl, rfl, rfl⟩ (by kernel_rfl) (fun w' hφ => rfl)) (by kernel_rfl) (fun _ => ?_)
      refine O.nil (by kernel_rfl) ?_
      refine J.mono (fun w hS => hS.unpk) ?_
      refine J.renS [0, 1, 5, 9, 10] (fr1 := [(0, .int .u64 a0), (1, .int .i64 a1), (5, .slice g1.1 s1.1.length g1.2), (9, .int .i64 a1), (10, .int .i64 s1.2)]) (bx1 := []) (rw1 := [mkRow (Kd.int .u8) 5 (.slice g1.1 s1.1.length g1.2) (s1.1.set ((IntKind.wrap .i64 ((IntKind.wrap .i64 (a1 - 1)) - s1.2)).toNat) (IntKind.wrap .u8 (shrI .u64 a0 (IntKind.wrap .i64 (8 * s1.2)))))]) (fr' := [(0, .int .u64 a0), (1, .int .i64 a1), (5, .slice g1.1 (s1.1.set ((IntKind.wrap .i64 ((IntKind.wrap .i64 (a1 - 1)) - s1.2)).toNat) (IntKind.wrap .u8 (shrI .u64 a0 (IntKind.wrap .i64 (8 * s1.2))))).length g1.2), (9, .int .i64 a1), (10, .int .i64 s1.2)]) (bx' := []) (rw' := [mkRow (Kd.int .u8) 5 (.slice g1.1 (s1.1.set ((IntKind.wrap .i64 ((IntKind.wrap .i64 (a1 - 1)) - s1.2)).toNat) (IntKind.wrap .u8 (shrI .u64 a0 (IntKind.wrap .i64 (8 * s1.2))))).length g1.2) (s1.1.set ((IntKind.wrap .i64 ((IntKind.wrap .i64 (a1 - 1)) - s1.2)).toNat) (IntKind.wrap .u8 (shrI .u64 a0 (IntKind.wrap .i64 (8 * s1.2)))))]) (by kernel_rfl) (by kernel_rfl) (by simp only [List.length_set, List.length_replicate]) ?_
      refine J.out ?_
      refine J.region (by kernel_rfl) ?_
      refine O.pure 2 [] [0, 1, 5, 9, 10] [] (fr' := [(0, .int .u64 a0), (1, .int .i64 a1), (5, .slice g1.1 (s1.1.set ((IntKind.wrap .i64 ((IntKind.wrap .i64 (a1 - 1)) - s1.2)).toNat) (IntKind.wrap .u8 (shrI .u64 a0 (IntKind.wrap .i64 (8 * s1.2))))).length g1.2), (9, .int .i64 a1), (10, .int .i64 (IntKind.wrap .i64 (s1.2 + 1)))]) (bx' := []) (by kernel_rfl) ?_
      refine O.nil (by kernel_rfl) ?_
      exact J.conv2 [0, 1, 5, 9, 10] [] [] [0] (by kernel_rfl) (by kernel_rfl) (by kernel_rfl) (by kernel_rfl) (by decide) (ih1 ((s1.1.set ((IntKind.wrap .i64 ((IntKind.wrap .i64 (a1 - 1)) - s1.2)).toNat) (IntKind.wrap .u8 (shrI .u64 a0 (IntKind.wrap .i64 (8 * s1.2))))), (IntKind.wrap .i64 (s1.2 + 1))) g1 H)
    · refine J.condF (x := .tmp 11) (t := (decide (s1.2 < a1))) (by kernel_rfl) (by kernel_rfl) hc4 ?_
      refine J.exit (id := 0) (by kernel_rfl) rfl ?_
      refine J.seq (by kernel_rfl) ?_
      refine J.region (by kernel_rfl) ?_
      refine O.pure 2 [] [4] [] (fr' := [(4, .slice g1.1 s1.1.length g1.2)]) (bx' := []) (by kernel_rfl) ?_
      refine O.nil (by kernel_rfl) ?_
      obtain rfl := Option.some.inj H
      exact J.doneS [] [] [] [] [0] g1 (vs := [.slice g1.1 s1.1.length g1.2]) (by kernel_rfl) (by kernel_rfl) (by kernel_rfl) (by kernel_rfl) (by kernel_rfl) (by decide)
  · exact J.conv2 [0, 1, 5, 9, 10] [] [] [0] (by kernel_rfl) (by kernel_rfl) (by kernel_rfl) (by kernel_rfl) (by decide) h_
/-! ### haywain/code.Num: function 14 -/
def code_Num.f (K : Nat) (a0 : Int) : Option (List Int) := (code_put.f K (IntKind.wrap .u64 a0) 8).bind fun x1_2 => some (x1_2)
set_option maxRecDepth 100000 in
set_option maxHeartbeats 1000000 in
theorem code_Num.con (K : Nat) (a0 : Int) (r : (List Int)) (X : Nat → Nat → Prop) (w : World) (hS : St X w [] [] [] [] [] w) (H : code_Num.f K a0 = some r) :
    Cn Try.prog 14 [.int .i64 a0] X w [] (fun i : Hd => .slice i.1 r.length i.2) (fun i => []) (fun i => [mkRow (Kd.int .u8) 5 (.slice i.1 r.length i.2) r]) (fun i => []) := by
  refine Cn.of Try.func14 (by kernel_rfl) hS ?_
  unfold code_Num.f at H
  refine J.seq (by kernel_rfl) ?_
  refine J.region (by kernel_rfl) ?_
  refine O.pure 1 [] [0] [] (fr' := [(0, .int .i64 a0)]) (bx' := []) (by kernel_rfl) ?_
  refine O.nil (by kernel_rfl) ?_
  refine J.seq (by kernel_rfl) ?_
  obtain ⟨x1_2, hx1_2, H⟩ := bindE H
  refine J.region (by kernel_rfl) ?_
  refine O.pure 2 [] [4] [] (fr' := [(4, .int .u64 (IntKind.wrap .u64 a0))]) (bx' := []) (by kernel_rfl) ?_
  refine O.e (some 5) (Ev.call0 (xs := [.tmp 4, .const (.int .i64 8)]) [] (by kernel_rfl) (by kernel_rfl) (fun w hS => code_put.con K (IntKind.wrap .u64 a0) 8  _ _ w hS hx1_2)) (by kernel_rfl) (fun p1_2 => ?_)
  refine O.pure 1 [] [2] [] (fr' := [(2, .slice p1_2.1 x1_2.length p1_2.2)]) (bx' := []) (by kernel_rfl) ?_
  refine O.nil (by kernel_rfl) ?_
  obtain rfl := Option.some.inj H
  exact J.doneS [] [] [] [] [0] p1_2 (vs := [.slice p1_2.1 x1_2.length p1_2.2]) (by kernel_rfl) (by kernel_rfl) (by kernel_rfl) (by kernel_rfl) (by kernel_rfl) (by decide)
/-! ### haywain/code.Text: function 16 -/
def code_Text.f (K : Nat) (a0 : ByteArray) : Option (List Int) := (code_Num.f K (a0.size : Int)).bind fun x1_2 => (appsO x1_2 a0).bind fun y1_4 => some ((x1_2 ++ numsOf a0))
set_option maxRecDepth 100000 in
set_option maxHeartbeats 1000000 in
theorem code_Text.con (K : Nat) (a0 : ByteArray) (r : (List Int)) (X : Nat → Nat → Prop) (w : World) (hS : St X w [] [] [] [] [] w) (H : code_Text.f K a0 = some r) :
    Cn Try.prog 16 [.string a0] X w [] (fun i : Hd => .slice i.1 r.length i.2) (fun i => []) (fun i => [mkRow (Kd.int .u8) 5 (.slice i.1 r.length i.2) r]) (fun i => []) := by
  refine Cn.of Try.func16 (by kernel_rfl) hS ?_
  unfold code_Text.f at H
  refine J.seq (by kernel_rfl) ?_
  refine J.region (by kernel_rfl) ?_
  refine O.pure 1 [] [0] [] (fr' := [(0, .string a0)]) (bx' := []) (by kernel_rfl) ?_
  refine O.nil (by kernel_rfl) ?_
  refine J.seq (by kernel_rfl) ?_
  obtain ⟨x1_2, hx1_2, H⟩ := bindE H
  obtain ⟨y1_4, hy1_4, H⟩ := bindE H
  have hy1_4a := appsE hy1_4
  refine J.region (by kernel_rfl) ?_
  refine O.pure 2 [] [0, 4] [] (fr' := [(0, .string a0), (4, .int .i64 (a0.size : Int))]) (bx' := []) (by kernel_rfl) ?_
  refine O.e (some 5) (Ev.call0 (xs := [.tmp 4]) [] (by kernel_rfl) (by kernel_rfl) (fun w hS => code_Num.con K (a0.size : Int)  _ _ w hS hx1_2)) (by kernel_rfl) (fun p1_2 => ?_)
  refine O.pure 1 [] [5, 6] [] (fr' := [(5, .slice p1_2.1 x1_2.length p1_2.2), (6, .string a0)]) (bx' := []) (by kernel_rfl) ?_
  refine O.e (some 7) (Ev.appStr (x := .tmp 5) (y := .tmp 6) (t := 22) (t' := 9) (s := a0) (by kernel_rfl) (by kernel_rfl) (by kernel_rfl) (by kernel_rfl) (by kernel_rfl) (by kernel_rfl) hy1_4a) (by kernel_rfl) (fun p1_4 => ?_)
  refine O.pure 1 [] [2] [] (fr' := [(2, .slice p1_4.1 (x1_2 ++ numsOf a0).length p1_4.2)]) (bx' := []) (by kernel_rfl) ?_
  refine O.nil (by kernel_rfl) ?_
  obtain rfl := Option.some.inj H
  exact J.doneS [] [] [] [] [0] p1_4 (vs := [.slice p1_4.1 (x1_2 ++ numsOf a0).length p1_4.2]) (by kernel_rfl) (by kernel_rfl) (by kernel_rfl) (by kernel_rfl) (by kernel_rfl) (by decide)
/-! ### haywain/code.rest: function 28 -/
def code_rest.f (K : Nat) (a0 : List Int) : Option (List Int) := (appO 1 ([] : List Int) a0).bind fun y1_2 => some ((([] : List Int) ++ a0))
set_option maxRecDepth 100000 in
set_option maxHeartbeats 1000000 in
theorem code_rest.con (K : Nat) (a0 : List Int) (h0 : Hd) (r : (List Int)) (X : Nat → Nat → Prop) (w : World) (hS : St X w [] [] [] [] [Rd (Kd.int .u8) h0.1 h0.2 a0] w) (H : code_rest.f K a0 = some r) :
    Cn Try.prog 28 [.slice h0.1 a0.length h0.2] X w [] (fun i : Hd => .slice i.1 r.length i.2) (fun i => []) (fun i => [mkRow (Kd.int .u8) 5 (.slice i.1 r.length i.2) r]) (fun i => []) := by
  refine Cn.of Try.func28 (by kernel_rfl) hS ?_
  unfold code_rest.f at H
  refine J.seq (by kernel_rfl) ?_
  refine J.region (by kernel_rfl) ?_
  refine O.pure 1 [] [0] [] (fr' := [(0, .slice h0.1 a0.length h0.2)]) (bx' := []) (by kernel_rfl) ?_
  refine O.nil (by kernel_rfl) ?_
  refine J.seq (by kernel_rfl) ?_
  obtain ⟨y1_2, hy1_2, H⟩ := bindE H
  have hy1_2a := (appE hy1_2).1
  refine J.region (by kernel_rfl) ?_
  refine O.e (some 3) (Ev.lit (t := 22) (len := 0) (parts := #[]) (ps := []) (cs := []) (e := 5) (Kd.int .u8) ([] : List Int) (by kernel_rfl) (by kernel_rfl) (by kernel_rfl) (by kernel_rfl) (by kernel_rfl) (by decide) (fun w' hφ => (Els.nil _ _ _))) (by kernel_rfl) (fun p1_0 => ?_)
  refine O.pure 1 [] [3, 4] [] (fr' := [(3, .slice ((some ⟨p1_0, 0, none⟩, 0) : Hd).1 ([] : List Int).length ((some ⟨p1_0, 0, none⟩, 0) : Hd).2), (4, .slice h0.1 a0.length h0.2)]) (bx' := []) (by kernel_rfl) ?_
  refine O.e (some 5) (Ev.appSl (d := (Kd.int .u8)) (ys := a0) (A := h0.1) (c := h0.2) (x := .tmp 3) (y := .tmp 4) (t := 22) (bytes := 1) 0 (by kernel_rfl) (by kernel_rfl) (by kernel_rfl) rfl (by kernel_rfl) (by decide) hy1_2a) (by kernel_rfl) (fun p1_2 => ?_)
  refine O.pure 1 [] [2] [] (fr' := [(2, .slice p1_2.1 (([] : List Int) ++ a0).length p1_2.2)]) (bx' := []) (by kernel_rfl) ?_
  refine O.nil (by kernel_rfl) ?_
  obtain rfl := Option.some.inj H
  exact J.doneS [] [] [] [] [0] p1_2 (vs := [.slice p1_2.1 (([] : List Int) ++ a0).length p1_2.2]) (by kernel_rfl) (by kernel_rfl) (by kernel_rfl) (by kernel_rfl) (by kernel_rfl) (by decide)
/-! ### haywain/code.Frame: function 18 -/
def code_Frame.f (K : Nat) (a0 : List Int) : Option ((List Int) × Int) := cond (decide ((a0.length : Int) > 4000)) (some ((([] : List Int), 3))) ((code_put.f K (IntKind.wrap .u64 (a0.length : Int)) 4).bind fun x3_3 => (code_rest.f K x3_3).bind fun x4_1 => (appO 1 x4_1 a0).bind fun y4_3 => (code_Sum.f K (x4_1 ++ a0)).bind fun x4_4 => (code_put.f K (IntKind.wrap .u64 x4_4) 4).bind fun x5_3 => (appO 1 x3_3 x5_3).bind fun y5_4 => (appO 1 (x3_3 ++ x5_3) a0).bind fun y5_6 => some ((((x3_3 ++ x5_3) ++ a0), 0)))
set_option maxRecDepth 100000 in
set_option maxHeartbeats 1000000 in
theorem code_Frame.con (K : Nat) (a0 : List Int) (h0 : Hd) (r : ((List Int) × Int)) (X : Nat → Nat → Prop) (w : World) (hS : St X w [] [] [] [] [Rd (Kd.int .u8) h0.1 h0.2 a0] w) (H : code_Frame.f K a0 = some r) :
    Cn Try.prog 18 [.slice h0.1 a0.length h0.2] X w [] (fun i : Hd => .tuple #[.slice i.1 r.1.length i.2, .int .i64 r.2]) (fun i => []) (fun i => [mkRow (Kd.int .u8) 5 (.slice i.1 r.1.length i.2) r.1]) (fun i => []) := by
  refine Cn.of Try.func18 (by kernel_rfl) hS ?_
  unfold code_Frame.f at H
  refine J.seq (by kernel_rfl) ?_
  refine J.region (by kernel_rfl) ?_
  refine O.pure 2 [] [0] [] (fr' := [(0, .slice h0.1 a0.length h0.2)]) (bx' := []) (by kernel_rfl) ?_
  refine O.nil (by kernel_rfl) ?_
  refine J.seq (by kernel_rfl) ?_
  refine J.seq (by kernel_rfl) ?_
  refine J.region (by kernel_rfl) ?_
  refine O.pure 3 [] [0, 8] [] (fr' := [(0, .slice h0.1 a0.length h0.2), (8, .bool (decide ((a0.length : Int) > 4000)))]) (bx' := []) (by kernel_rfl) ?_
  refine O.nil (by kernel_rfl) ?_
  rcases condE H with ⟨hc1, H⟩ | ⟨hc1, H⟩
  · refine J.condT (x := .tmp 8) (t := (decide ((a0.length : Int) > 4000))) (by kernel_rfl) (by kernel_rfl) hc1 ?_
    refine J.seq (by kernel_rfl) ?_
    refine J.region (by kernel_rfl) ?_
    refine O.pure 2 [] [2, 3] [] (fr' := [(2, .slice none 0 0), (3, .int .i64 3)]) (bx' := []) (by kernel_rfl) ?_
    refine O.nil (by kernel_rfl) ?_
    obtain rfl := Option.some.inj H
    refine J.nilrow (Kd.int .u8) 5 ?_
    exact J.doneS [] [] [] [] [0] (none, 0) (vs := [.slice none 0 0, .int .i64 3]) (by kernel_rfl) (by kernel_rfl) (by kernel_rfl) (by kernel_rfl) (by kernel_rfl) (by decide)
  · refine J.condF (x := .tmp 8) (t := (decide ((a0.length : Int) > 4000))) (by kernel_rfl) (by kernel_rfl) hc1 ?_
    refine J.skip (by kernel_rfl) ?_
    refine J.seq (by kernel_rfl) ?_
    obtain ⟨x3_3, hx3_3, H⟩ := bindE H
    refine J.region (by kernel_rfl) ?_
    refine O.pure 3 [] [0, 11] [] (fr' := [(0, .slice h0.1 a0.length h0.2), (11, .int .u64 (IntKind.wrap .u64 (a0.length : Int)))]) (bx' := []) (by kernel_rfl) ?_
    refine O.e (some 12) (Ev.call0 (xs := [.tmp 11, .const (.int .i64 4)]) [] (by kernel_rfl) (by kernel_rfl) (fun w hS => code_put.con K (IntKind.wrap .u64 (a0.length : Int)) 4  _ _ w hS hx3_3)) (by kernel_rfl) (fun p3_3 => ?_)
    refine O.pure 1 [] [0, 4] [] (fr' := [(0, .slice h0.1 a0.length h0.2), (4, .slice p3_3.1 x3_3.length p3_3.2)]) (bx' := []) (by kernel_rfl) ?_
    refine O.nil (by kernel_rfl) ?_
    refine J.seq (by kernel_rfl) ?_
    obtain ⟨x4_1, hx4_1, H⟩ := bindE H
    obtain ⟨y4_3, hy4_3, H⟩ := bindE H
    have hy4_3a := (appE hy4_3).1
    obtain ⟨x4_4, hx4_4, H⟩ := bindE H
    refine J.region (by kernel_rfl) ?_
    refine O.pure 1 [] [0, 4, 13] [] (fr' := [(0, .slice h0.1 a0.length h0.2), (4, .slice p3_3.1 x3_3.length p3_3.2), (13, .slice p3_3.1 x3_3.length p3_3.2)]) (bx' := []) (by kernel_rfl) ?_
    refine O.e (some 14) (Ev.callL (hh := p3_3) (xs := x3_3) (m := x3_3.length) (xs1 := [.tmp 13]) [0] rfl (by kernel_rfl) (by kernel_rfl) (fun _ q hq _ _ _ h => by obtain rfl := List.mem_singleton.1 hq; exact h) (fun w hS => code_rest.con K x3_3 p3_3  _ _ w hS hx4_1)) (by kernel_rfl) (fun p4_1 => ?_)
    refine O.pure 1 [] [0, 4, 14, 15] [] (fr' := [(0, .slice h0.1 a0.length h0.2), (4, .slice p3_3.1 x3_3.length p3_3.2), (14, .slice p4_1.1 x4_1.length p4_1.2), (15, .slice h0.1 a0.length h0.2)]) (bx' := []) (by kernel_rfl) ?_
    refine O.e (some 16) (Ev.appSl (d := (Kd.int .u8)) (ys := a0) (A := h0.1) (c := h0.2) (x := .tmp 14) (y := .tmp 15) (t := 22) (bytes := 1) 0 (by kernel_rfl) (by kernel_rfl) (by kernel_rfl) rfl (by kernel_rfl) (by decide) hy4_3a) (by kernel_rfl) (fun p4_3 => ?_)
    refine O.e (some 17) (Ev.callL (hh := p4_3) (xs := (x4_1 ++ a0)) (m := (x4_1 ++ a0).length) (xs1 := [.tmp 16]) [0] rfl (by kernel_rfl) (by kernel_rfl) (fun _ q hq => by cases hq) (fun w hS => code_Sum.con K (x4_1 ++ a0) p4_3  _ _ w hS hx4_4)) (by kernel_rfl) (fun _ => ?_)
    refine O.pure 1 [] [0, 4, 5] [] (fr' := [(0, .slice h0.1 a0.length h0.2), (4, .slice p3_3.1 x3_3.length p3_3.2), (5, .int .u32 x4_4)]) (bx' := []) (by kernel_rfl) ?_
    refine O.nil (by kernel_rfl) ?_
    refine J.seq (by kernel_rfl) ?_
    obtain ⟨x5_3, hx5_3, H⟩ := bindE H
    obtain ⟨y5_4, hy5_4, H⟩ := bindE H
    have hy5_4a := (appE hy5_4).1
    obtain ⟨y5_6, hy5_6, H⟩ := bindE H
    have hy5_6a := (appE hy5_6).1
    refine J.region (by kernel_rfl) ?_
    refine O.pure 3 [] [0, 18, 20] [] (fr' := [(0, .slice h0.1 a0.length h0.2), (18, .slice p3_3.1 x3_3.length p3_3.2), (20, .int .u64 (IntKind.wrap .u64 x4_4))]) (bx' := []) (by kernel_rfl) ?_
    refine O.e (some 21) (Ev.call0 (xs := [.tmp 20, .const (.int .i64 4)]) [] (by kernel_rfl) (by kernel_rfl) (fun w hS => code_put.con K (IntKind.wrap .u64 x4_4) 4  _ _ w hS hx5_3)) (by kernel_rfl) (fun p5_3 => ?_)
    refine O.e (some 22) (Ev.mono (fun w hS => hS.freezeH (h := p5_3) (xs := x5_3)) (Ev.mono (fun w hS => hS.rowsel [1, 0] rfl (by decide)) (Ev.appSl (d := (Kd.int .u8)) (ys := x5_3) (A := p5_3.1) (c := p5_3.2) (x := .tmp 18) (y := .tmp 21) (t := 22) (bytes := 1) 0 (by kernel_rfl) (by kernel_rfl) (by kernel_rfl) rfl (by kernel_rfl) (by decide) hy5_4a))) (by kernel_rfl) (fun p5_4 => ?_)
    refine O.pure 1 [] [22, 23] [] (fr' := [(22, .slice p5_4.1 (x3_3 ++ x5_3).length p5_4.2), (23, .slice h0.1 a0.length h0.2)]) (bx' := []) (by kernel_rfl) ?_
    refine O.e (some 24) (Ev.appSl (d := (Kd.int .u8)) (ys := a0) (A := h0.1) (c := h0.2) (x := .tmp 22) (y := .tmp 23) (t := 22) (bytes := 1) 1 (by kernel_rfl) (by kernel_rfl) (by kernel_rfl) rfl (by kernel_rfl) (by decide) hy5_6a) (by kernel_rfl) (fun p5_6 => ?_)
    refine O.pure 2 [] [2, 3] [] (fr' := [(2, .slice p5_6.1 ((x3_3 ++ x5_3) ++ a0).length p5_6.2), (3, .int .i64 0)]) (bx' := []) (by kernel_rfl) ?_
    refine O.nil (by kernel_rfl) ?_
    obtain rfl := Option.some.inj H
    exact J.doneS [] [] [] [] [0] p5_6 (vs := [.slice p5_6.1 ((x3_3 ++ x5_3) ++ a0).length p5_6.2, .int .i64 0]) (by kernel_rfl) (by kernel_rfl) (by kernel_rfl) (by kernel_rfl) (by kernel_rfl) (by decide)
/-! ### haywain/code.get: function 29 -/
def code_get.l1 (K : Nat) (a0 : List Int) : Nat → (Int × Int) → Option Int
  | 0, _ => none
  | k + 1, s1 => cond (decide (s1.2 < (a0.length : Int))) ((idxO a0 s1.2).bind fun x4_0 => code_get.l1 K a0 k ((orI .u64 (shlI .u64 s1.1 8) (IntKind.wrap .u64 x4_0)), (IntKind.wrap .i64 (s1.2 + 1)))) (some (s1.1))
def code_get.f (K : Nat) (a0 : List Int) : Option Int := code_get.l1 K a0 K (0, 0)
set_option maxRecDepth 100000 in
set_option maxHeartbeats 1000000 in
theorem code_get.con (K : Nat) (a0 : List Int) (h0 : Hd) (r : Int) (X : Nat → Nat → Prop) (w : World) (hS : St X w [] [] [] [] [Rd (Kd.int .u8) h0.1 h0.2 a0] w) (H : code_get.f K a0 = some r) :
    Cn Try.prog 29 [.slice h0.1 a0.length h0.2] X w [] (fun i : Unit => .int .u64 r) (fun i => []) (fun i => []) (fun i => []) := by
  refine Cn.of Try.func29 (by kernel_rfl) hS ?_
  unfold code_get.f at H
  refine J.seq (by kernel_rfl) ?_
  refine J.region (by kernel_rfl) ?_
  refine O.pure 1 [] [0] [] (fr' := [(0, .slice h0.1 a0.length h0.2)]) (bx' := []) (by kernel_rfl) ?_
  refine O.nil (by kernel_rfl) ?_
  refine J.seq (by kernel_rfl) ?_
  refine J.region (by kernel_rfl) ?_
  refine O.pure 1 [] [0, 3] [] (fr' := [(0, .slice h0.1 a0.length h0.2), (3, .int .u64 0)]) (bx' := []) (by kernel_rfl) ?_
  refine O.nil (by kernel_rfl) ?_
  refine J.seq (by kernel_rfl) ?_
  refine J.seq (by kernel_rfl) ?_
  refine J.region (by kernel_rfl) ?_
  refine O.pure 3 [] [3, 6, 7, 8] [] (fr' := [(3, .int .u64 0), (6, .slice h0.1 a0.length h0.2), (7, .int .i64 (a0.length : Int)), (8, .int .i64 0)]) (bx' := []) (by kernel_rfl) ?_
  refine O.nil (by kernel_rfl) ?_
  refine J.block (id := 0) (by kernel_rfl) ?_
  refine J.loopI (σ := Int × Int) (γ := Unit) (f := fun m_ s_ => code_get.l1 K a0 m_ s_) (fun s1 g1 => [(3, .int .u64 s1.1), (6, .slice h0.1 a0.length h0.2), (7, .int .i64 (a0.length : Int)), (8, .int .i64 s1.2)]) (fun s1 g1 => St X w [] [] [] [] [Rd (Kd.int .u8) h0.1 h0.2 a0]) K (0, 0) () (by kernel_rfl) H (fun _ => rfl) (fun m_ s1 H ih1 g1 => ?_) (fun h_ => ?_)
  · unfold code_get.l1 at H
    refine J.seq (by kernel_rfl) ?_
    refine J.region (by kernel_rfl) ?_
    refine O.pure 1 [] [3, 6, 7, 8, 9] [] (fr' := [(3, .int .u64 s1.1), (6, .slice h0.1 a0.length h0.2), (7, .int .i64 (a0.length : Int)), (8, .int .i64 s1.2), (9, .bool (decide (s1.2 < (a0.length : Int))))]) (bx' := []) (by kernel_rfl) ?_
    refine O.nil (by kernel_rfl) ?_
    refine J.seq (by kernel_rfl) ?_
    rcases condE H with ⟨hc4, H⟩ | ⟨hc4, H⟩
    · refine J.condT (x := .tmp 9) (t := (decide (s1.2 < (a0.length : Int)))) (by kernel_rfl) (by kernel_rfl) hc4 ?_
      refine J.skip (by kernel_rfl) ?_
      refine J.seq (by kernel_rfl) ?_
      refine J.block (id := 1) (by kernel_rfl) ?_
      refine J.seq (by kernel_rfl) ?_
      obtain ⟨x4_0, hx4_0, H⟩ := bindE H
      obtain ⟨hx4_0a, hx4_0⟩ := idxE hx4_0
      refine J.region (by kernel_rfl) ?_
      refine O.open (d := (Kd.int .u8)) (h := h0) (i := s1.2) 0 rfl hx4_0 (Lay.int _ _) (fun p4_0 hp4_0A => ?_)
      refine O.q (v := .pointer (some ⟨p4_0.1, p4_0.2.1 + s1.2.toNat * 1, none⟩)) (some 10) (Qu.idx (t := 22) (x := .tmp 6) (y := .tmp 8) (c := h0.2) (kk := .i64) (sz := 1) (by kernel_rfl) (by kernel_rfl) (by kernel_rfl) (by kernel_rfl) hx4_0a (idx_lt hx4_0) hp4_0A) (by kernel_rfl) ?_
      refine O.pure 2 [(0, 0)] [3, 5, 6, 7, 8] [p4_0.1, p4_0.2.1 + s1.2.toNat * 1] (fr' := [(3, .int .u64 s1.1), (5, .int .u8 x4_0), (6, .slice h0.1 a0.length h0.2), (7, .int .i64 (a0.length : Int)), (8, .int .i64 s1.2)]) (bx' := []) (by kernel_rfl) ?_
      refine O.nil (by kernel_rfl) ?_
      refine J.region (by kernel_rfl) ?_
      refine O.pure 1 [] [3, 5, 6, 7, 8, 12] [] (fr' := [(3, .int .u64 s1.1), (5, .int .u8 x4_0), (6, .slice h0.1 a0.length h0.2), (7, .int .i64 (a0.length : Int)), (8, .int .i64 s1.2), (12, .int .u64 s1.1)]) (bx' := []) (by kernel_rfl) ?_
      refine O.q (v := .int .u64 (shlI .u64 s1.1 8)) (some 13) (Qu.shl (t := 53) (t' := 39) (x := .tmp 12) (y := .const (.int .u64 8)) (k := .u64) (k' := .u64) (a := s1.1) (b := 8) (by kernel_rfl) (by kernel_rfl) (by kernel_rfl) (by decide)) (by kernel_rfl) ?_
      refine O.pure 4 [] [3, 6, 7, 8] [] (fr' := [(3, .int .u64 (orI .u64 (shlI .u64 s1.1 8) (IntKind.wrap .u64 x4_0))), (6, .slice h0.1 a0.length h0.2), (7, .int .i64 (a0.length : Int)), (8, .int .i64 s1.2)]) (bx' := []) (by kernel_rfl) ?_
      refine O.nil (by kernel_rfl) ?_
      refine J.out ?_
      refine J.region (by kernel_rfl) ?_
      refine O.pure 2 [] [3, 6, 7, 8] [] (fr' := [(3, .int .u64 (orI .u64 (shlI .u64 s1.1 8) (IntKind.wrap .u64 x4_0))), (6, .slice h0.1 a0.length h0.2), (7, .int .i64 (a0.length : Int)), (8, .int .i64 (IntKind.wrap .i64 (s1.2 + 1)))]) (bx' := []) (by kernel_rfl) ?_
      refine O.nil (by kernel_rfl) ?_
      exact J.conv2 [3, 6, 7, 8] [0] [] [] (by kernel_rfl) (by kernel_rfl) (by kernel_rfl) (by kernel_rfl) (by decide) (ih1 ((orI .u64 (shlI .u64 s1.1 8) (IntKind.wrap .u64 x4_0)), (IntKind.wrap .i64 (s1.2 + 1))) () H)
    · refine J.condF (x := .tmp 9) (t := (decide (s1.2 < (a0.length : Int)))) (by kernel_rfl) (by kernel_rfl) hc4 ?_
      refine J.exit (id := 0) (by kernel_rfl) rfl ?_
      refine J.seq (by kernel_rfl) ?_
      refine J.region (by kernel_rfl) ?_
      refine O.pure 2 [] [2] [] (fr' := [(2, .int .u64 s1.1)]) (bx' := []) (by kernel_rfl) ?_
      refine O.nil (by kernel_rfl) ?_
      obtain rfl := Option.some.inj H
      exact J.doneS [] [] [] [] [] () (vs := [.int .u64 s1.1]) (by kernel_rfl) (by kernel_rfl) (by kernel_rfl) (by kernel_rfl) (by kernel_rfl) (by decide)
  · exact J.conv2 [3, 6, 7, 8] [0] [] [] (by kernel_rfl) (by kernel_rfl) (by kernel_rfl) (by kernel_rfl) (by decide) h_
/-! ### haywain/code.TakeFrame: function 20 -/
def code_TakeFrame.f (K : Nat) (a0 : List Int) : Option ((List Int) × (List Int) × Int) := cond (decide ((a0.length : Int) < 8)) (some ((([] : List Int), ([] : List Int), 2))) ((cutO a0 0 4).bind fun y3_1 => (code_get.f K (cutL a0 ((0 : Int).toNat) ((4 : Int).toNat))).bind fun x3_2 => cond (decide (x3_2 > 4000)) (some ((([] : List Int), ([] : List Int), 2))) (cond (decide (x3_2 > (IntKind.wrap .u64 (IntKind.wrap .i64 ((a0.length : Int) - 8))))) (some ((([] : List Int), ([] : List Int), 2))) ((cutO a0 8 (IntKind.wrap .u64 (8 + x3_2))).bind fun y6_3 => (code_rest.f K (cutL a0 ((8 : Int).toNat) (((IntKind.wrap .u64 (8 + x3_2)) : Int).toNat))).bind fun x6_4 => (cutO a0 0 4).bind fun y7_1 => (code_rest.f K (cutL a0 ((0 : Int).toNat) ((4 : Int).toNat))).bind fun x7_2 => (appO 1 x7_2 x6_4).bind fun y7_4 => (code_Sum.f K (x7_2 ++ x6_4)).bind fun x7_5 => (cutO a0 4 8).bind fun y7_7 => (code_get.f K (cutL a0 ((4 : Int).toNat) ((8 : Int).toNat))).bind fun x7_8 => cond (x7_5 != (IntKind.wrap .u32 x7_8)) (some ((([] : List Int), ([] : List Int), 7))) ((cutO a0 (IntKind.wrap .u64 (8 + x3_2)) (a0.length : Int)).bind fun y9_4 => (code_rest.f K (cutL a0 (((IntKind.wrap .u64 (8 + x3_2)) : Int).toNat) (((a0.length : Int) : Int).toNat))).bind fun x9_5 => some ((x6_4, x9_5, 0))))))
set_option maxRecDepth 100000 in
set_option maxHeartbeats 1000000 in
theorem code_TakeFrame.con (K : Nat) (a0 : List Int) (h0 : Hd) (r : ((List Int) × (List Int) × Int)) (X : Nat → Nat → Prop) (w : World) (hS : St X w [] [] [] [] [Rd (Kd.int .u8) h0.1 h0.2 a0] w) (H : code_TakeFrame.f K a0 = some r) :
    Cn Try.prog 20 [.slice h0.1 a0.length h0.2] X w [] (fun i : Hd × Hd => .tuple #[.slice i.1.1 r.1.length i.1.2, .slice i.2.1 r.2.1.length i.2.2, .int .i64 r.2.2]) (fun i => []) (fun i => [mkRow (Kd.int .u8) 5 (.slice i.2.1 r.2.1.length i.2.2) r.2.1]) (fun i => [Rd (Kd.int .u8) i.1.1 i.1.2 r.1]) := by
  refine Cn.of Try.func20 (by kernel_rfl) hS ?_
  unfold code_TakeFrame.f at H
  refine J.seq (by kernel_rfl) ?_
  refine J.region (by kernel_rfl) ?_
  refine O.pure 3 [] [0] [] (fr' := [(0, .slice h0.1 a0.length h0.2)]) (bx' := []) (by kernel_rfl) ?_
  refine O.nil (by kernel_rfl) ?_
  refine J.seq (by kernel_rfl) ?_
  refine J.seq (by kernel_rfl) ?_
  refine J.region (by kernel_rfl) ?_
  refine O.pure 3 [] [0, 9] [] (fr' := [(0, .slice h0.1 a0.length h0.2), (9, .bool (decide ((a0.length : Int) < 8)))]) (bx' := []) (by kernel_rfl) ?_
  refine O.nil (by kernel_rfl) ?_
  rcases condE H with ⟨hc1, H⟩ | ⟨hc1, H⟩
  · refine J.condT (x := .tmp 9) (t := (decide ((a0.length : Int) < 8))) (by kernel_rfl) (by kernel_rfl) hc1 ?_
    refine J.seq (by kernel_rfl) ?_
    refine J.region (by kernel_rfl) ?_
    refine O.pure 3 [] [2, 3, 4] [] (fr' := [(2, .slice none 0 0), (3, .slice none 0 0), (4, .int .i64 2)]) (bx' := []) (by kernel_rfl) ?_
    refine O.nil (by kernel_rfl) ?_
    obtain rfl := Option.some.inj H
    refine J.nilF (Kd.int .u8) ?_
    refine J.nilrow (Kd.int .u8) 5 ?_
    exact J.doneS [] [] [0] [] [0] ((none, 0), (none, 0)) (vs := [.slice none 0 0, .slice none 0 0, .int .i64 2]) (by kernel_rfl) (by kernel_rfl) (by kernel_rfl) (by kernel_rfl) (by kernel_rfl) (by decide)
  · refine J.condF (x := .tmp 9) (t := (decide ((a0.length : Int) < 8))) (by kernel_rfl) (by kernel_rfl) hc1 ?_
    refine J.skip (by kernel_rfl) ?_
    refine J.seq (by kernel_rfl) ?_
    obtain ⟨y3_1, hy3_1, H⟩ := bindE H
    obtain ⟨hy3_1a, hy3_1b, hy3_1c, -⟩ := cutE hy3_1
    obtain ⟨x3_2, hx3_2, H⟩ := bindE H
    refine J.region (by kernel_rfl) ?_
    refine O.pure 1 [] [0, 10] [] (fr' := [(0, .slice h0.1 a0.length h0.2), (10, .slice h0.1 a0.length h0.2)]) (bx' := []) (by kernel_rfl) ?_
    refine O.e (some 11) (Ev.cut (d := (Kd.int .u8)) (xs := a0) (t := 22) (x := .tmp 10) (lo := none) (hi := (some (.const (.int .i64 4)))) (vlo := none) (vhi := (some (.int .i64 4))) (A := h0.1) (c := h0.2) (l := (0 : Int).toNat) (h := (4 : Int).toNat) 0 (by kernel_rfl) (by kernel_rfl) (by kernel_rfl) (by kernel_rfl) (by kernel_rfl) (Bd.dflt _) (Bd.val _ _ _ (by omega)) (by omega) (by omega) rfl) (by kernel_rfl) (fun p3_1 => ?_)
    refine O.e (some 12) (Ev.call0 (xs := [.tmp 11]) [0] (by kernel_rfl) (by kernel_rfl) (fun w hS => code_get.con K (cutL a0 ((0 : Int).toNat) ((4 : Int).toNat)) p3_1  _ _ w hS hx3_2)) (by kernel_rfl) (fun _ => ?_)
    refine O.pure 1 [] [0, 5] [] (fr' := [(0, .slice h0.1 a0.length h0.2), (5, .int .u64 x3_2)]) (bx' := []) (by kernel_rfl) ?_
    refine O.nil (by kernel_rfl) ?_
    refine J.seq (by kernel_rfl) ?_
    refine J.seq (by kernel_rfl) ?_
    rcases condE H with ⟨hc2, H⟩ | ⟨hc2, H⟩
    · refine J.region (by kernel_rfl) ?_
      refine O.pure 1 [] [0, 5, 13] [] (fr' := [(0, .slice h0.1 a0.length h0.2), (5, .int .u64 x3_2), (13, .int .u64 x3_2)]) (bx' := []) (by kernel_rfl) ?_
      refine O.q (v := .bool true) (some 14) (Qu.eqv (u := .bool (decide (x3_2 > 4000))) (v := .bool true) (0, 0) [] (by kernel_rfl) (congrArg Value.bool hc2)) (by kernel_rfl) ?_
      refine O.pure 8 [] [0, 5, 22] [] (fr' := [(0, .slice h0.1 a0.length h0.2), (5, .int .u64 x3_2), (22, .bool true)]) (bx' := []) (by kernel_rfl) ?_
      refine O.nil (by kernel_rfl) ?_
      refine J.cond (o := .tmp 22) true (by kernel_rfl) (by kernel_rfl) ?_
      refine J.seq (by kernel_rfl) ?_
      refine J.region (by kernel_rfl) ?_
      refine O.pure 3 [] [2, 3, 4] [] (fr' := [(2, .slice none 0 0), (3, .slice none 0 0), (4, .int .i64 2)]) (bx' := []) (by kernel_rfl) ?_
      refine O.nil (by kernel_rfl) ?_
      obtain rfl := Option.some.inj H
      refine J.nilF (Kd.int .u8) ?_
      refine J.nilrow (Kd.int .u8) 5 ?_
      exact J.doneS [] [] [0] [] [0] ((none, 0), (none, 0)) (vs := [.slice none 0 0, .slice none 0 0, .int .i64 2]) (by kernel_rfl) (by kernel_rfl) (by kernel_rfl) (by kernel_rfl) (by kernel_rfl) (by decide)
    · refine J.region (by kernel_rfl) ?_
      refine O.pure 1 [] [0, 5, 13] [] (fr' := [(0, .slice h0.1 a0.length h0.2), (5, .int .u64 x3_2), (13, .int .u64 x3_2)]) (bx' := []) (by kernel_rfl) ?_
      refine O.q (v := .bool false) (some 14) (Qu.eqv (u := .bool (decide (x3_2 > 4000))) (v := .bool false) (0, 0) [] (by kernel_rfl) (congrArg Value.bool hc2)) (by kernel_rfl) ?_
      refine O.pure 8 [] [0, 5, 22] [] (fr' := [(0, .slice h0.1 a0.length h0.2), (5, .int .u64 x3_2), (22, .bool (decide (x3_2 > (IntKind.wrap .u64 (IntKind.wrap .i64 ((a0.length : Int) - 8))))))]) (bx' := []) (by kernel_rfl) ?_
      refine O.nil (by kernel_rfl) ?_
      rcases condE H with ⟨hc3, H⟩ | ⟨hc3, H⟩
      · refine J.condT (x := .tmp 22) (t := (decide (x3_2 > (IntKind.wrap .u64 (IntKind.wrap .i64 ((a0.length : Int) - 8)))))) (by kernel_rfl) (by kernel_rfl) hc3 ?_
        refine J.seq (by kernel_rfl) ?_
        refine J.region (by kernel_rfl) ?_
        refine O.pure 3 [] [2, 3, 4] [] (fr' := [(2, .slice none 0 0), (3, .slice none 0 0), (4, .int .i64 2)]) (bx' := []) (by kernel_rfl) ?_
        refine O.nil (by kernel_rfl) ?_
        obtain rfl := Option.some.inj H
        refine J.nilF (Kd.int .u8) ?_
        refine J.nilrow (Kd.int .u8) 5 ?_
        exact J.doneS [] [] [0] [] [0] ((none, 0), (none, 0)) (vs := [.slice none 0 0, .slice none 0 0, .int .i64 2]) (by kernel_rfl) (by kernel_rfl) (by kernel_rfl) (by kernel_rfl) (by kernel_rfl) (by decide)
      · refine J.condF (x := .tmp 22) (t := (decide (x3_2 > (IntKind.wrap .u64 (IntKind.wrap .i64 ((a0.length : Int) - 8)))))) (by kernel_rfl) (by kernel_rfl) hc3 ?_
        refine J.skip (by kernel_rfl) ?_
        refine J.seq (by kernel_rfl) ?_
        obtain ⟨y6_3, hy6_3, H⟩ := bindE H
        obtain ⟨hy6_3a, hy6_3b, hy6_3c, -⟩ := cutE hy6_3
        obtain ⟨x6_4, hx6_4, H⟩ := bindE H
        refine J.region (by kernel_rfl) ?_
        refine O.pure 3 [] [0, 5, 23, 25] [] (fr' := [(0, .slice h0.1 a0.length h0.2), (5, .int .u64 x3_2), (23, .slice h0.1 a0.length h0.2), (25, .int .u64 (IntKind.wrap .u64 (8 + x3_2)))]) (bx' := []) (by kernel_rfl) ?_
        refine O.e (some 26) (Ev.cut (d := (Kd.int .u8)) (xs := a0) (t := 22) (x := .tmp 23) (lo := (some (.const (.int .i64 8)))) (hi := (some (.tmp 25))) (vlo := (some (.int .i64 8))) (vhi := (some (.int .u64 (IntKind.wrap .u64 (8 + x3_2))))) (A := h0.1) (c := h0.2) (l := (8 : Int).toNat) (h := ((IntKind.wrap .u64 (8 + x3_2)) : Int).toNat) 1 (by kernel_rfl) (by kernel_rfl) (by kernel_rfl) (by kernel_rfl) (by kernel_rfl) (Bd.val _ _ _ (by omega)) (Bd.val _ _ _ (by omega)) (by omega) (by omega) rfl) (by kernel_rfl) (fun p6_3 => ?_)
        refine O.e (some 27) (Ev.call0 (xs := [.tmp 26]) [0] (by kernel_rfl) (by kernel_rfl) (fun w hS => code_rest.con K (cutL a0 ((8 : Int).toNat) (((IntKind.wrap .u64 (8 + x3_2)) : Int).toNat)) p6_3  _ _ w hS hx6_4)) (by kernel_rfl) (fun p6_4 => ?_)
        refine O.pure 1 [] [0, 5, 6] [] (fr' := [(0, .slice h0.1 a0.length h0.2), (5, .int .u64 x3_2), (6, .slice p6_4.1 x6_4.length p6_4.2)]) (bx' := []) (by kernel_rfl) ?_
        refine O.nil (by kernel_rfl) ?_
        refine J.seq (by kernel_rfl) ?_
        refine J.seq (by kernel_rfl) ?_
        obtain ⟨y7_1, hy7_1, H⟩ := bindE H
        obtain ⟨hy7_1a, hy7_1b, hy7_1c, -⟩ := cutE hy7_1
        obtain ⟨x7_2, hx7_2, H⟩ := bindE H
        obtain ⟨y7_4, hy7_4, H⟩ := bindE H
        have hy7_4a := (appE hy7_4).1
        obtain ⟨x7_5, hx7_5, H⟩ := bindE H
        obtain ⟨y7_7, hy7_7, H⟩ := bindE H
        obtain ⟨hy7_7a, hy7_7b, hy7_7c, -⟩ := cutE hy7_7
        obtain ⟨x7_8, hx7_8, H⟩ := bindE H
        refine J.cutAt (γ := Hd × Hd × Hd × Hd) (fun q_ => [(0, .slice h0.1 a0.length h0.2), (5, .int .u64 x3_2), (6, .slice p6_4.1 x6_4.length p6_4.2), (38, .bool (x7_5 != (IntKind.wrap .u32 x7_8)))]) (fun q_ => St X w [] [] [mkRow (Kd.int .u8) 5 (.slice q_.2.2.1.1 (x7_2 ++ x6_4).length q_.2.2.1.2) (x7_2 ++ x6_4)] [] [Rd (Kd.int .u8) q_.2.2.2.1 q_.2.2.2.2 (cutL a0 ((4 : Int).toNat) ((8 : Int).toNat)), Rd (Kd.int .u8) p6_4.1 p6_4.2 x6_4, Rd (Kd.int .u8) q_.1.1 q_.1.2 (cutL a0 ((0 : Int).toNat) ((4 : Int).toNat)), Rd (Kd.int .u8) p6_3.1 p6_3.2 (cutL a0 ((8 : Int).toNat) (((IntKind.wrap .u64 (8 + x3_2)) : Int).toNat)), Rd (Kd.int .u8) p3_1.1 p3_1.2 (cutL a0 ((0 : Int).toNat) ((4 : Int).toNat)), Rd (Kd.int .u8) h0.1 h0.2 a0]) (fun q_ => ?_) (fun hk_ => ?_)
        · obtain ⟨p7_1, p7_2, p7_4, p7_7⟩ := q_
          rcases condE H with ⟨hc4, H⟩ | ⟨hc4, H⟩
          · refine J.condT (x := .tmp 38) (t := (x7_5 != (IntKind.wrap .u32 x7_8))) (by kernel_rfl) (by kernel_rfl) hc4 ?_
            refine J.seq (by kernel_rfl) ?_
            refine J.region (by kernel_rfl) ?_
            refine O.pure 3 [] [2, 3, 4] [] (fr' := [(2, .slice none 0 0), (3, .slice none 0 0), (4, .int .i64 7)]) (bx' := []) (by kernel_rfl) ?_
            refine O.nil (by kernel_rfl) ?_
            obtain rfl := Option.some.inj H
            refine J.nilF (Kd.int .u8) ?_
            refine J.nilrow (Kd.int .u8) 5 ?_
            exact J.doneS [] [] [0] [] [0] ((none, 0), (none, 0)) (vs := [.slice none 0 0, .slice none 0 0, .int .i64 7]) (by kernel_rfl) (by kernel_rfl) (by kernel_rfl) (by kernel_rfl) (by kernel_rfl) (by decide)
          · refine J.condF (x := .tmp 38) (t := (x7_5 != (IntKind.wrap .u32 x7_8))) (by kernel_rfl) (by kernel_rfl) hc4 ?_
            refine J.skip (by kernel_rfl) ?_
            refine J.seq (by kernel_rfl) ?_
            obtain ⟨y9_4, hy9_4, H⟩ := bindE H
            obtain ⟨hy9_4a, hy9_4b, hy9_4c, -⟩ := cutE hy9_4
            obtain ⟨x9_5, hx9_5, H⟩ := bindE H
            refine J.region (by kernel_rfl) ?_
            refine O.pure 4 [] [39, 40, 42] [] (fr' := [(39, .slice p6_4.1 x6_4.length p6_4.2), (40, .slice h0.1 a0.length h0.2), (42, .int .u64 (IntKind.wrap .u64 (8 + x3_2)))]) (bx' := []) (by kernel_rfl) ?_
            refine O.e (some 43) (Ev.cut (d := (Kd.int .u8)) (xs := a0) (t := 22) (x := .tmp 40) (lo := (some (.tmp 42))) (hi := none) (vlo := (some (.int .u64 (IntKind.wrap .u64 (8 + x3_2))))) (vhi := none) (A := h0.1) (c := h0.2) (l := ((IntKind.wrap .u64 (8 + x3_2)) : Int).toNat) (h := ((a0.length : Int) : Int).toNat) 5 (by kernel_rfl) (by kernel_rfl) (by kernel_rfl) (by kernel_rfl) (by kernel_rfl) (Bd.val _ _ _ (by omega)) (Bd.dflt _) (by omega) (by omega) rfl) (by kernel_rfl) (fun p9_4 => ?_)
            refine O.e (some 44) (Ev.call0 (xs := [.tmp 43]) [0] (by kernel_rfl) (by kernel_rfl) (fun w hS => code_rest.con K (cutL a0 (((IntKind.wrap .u64 (8 + x3_2)) : Int).toNat) (((a0.length : Int) : Int).toNat)) p9_4  _ _ w hS hx9_5)) (by kernel_rfl) (fun p9_5 => ?_)
            refine O.pure 3 [] [2, 3, 4] [] (fr' := [(2, .slice p6_4.1 x6_4.length p6_4.2), (3, .slice p9_5.1 x9_5.length p9_5.2), (4, .int .i64 0)]) (bx' := []) (by kernel_rfl) ?_
            refine O.nil (by kernel_rfl) ?_
            obtain rfl := Option.some.inj H
            exact J.doneS [] [] [2] [] [0] (p6_4, p9_5) (vs := [.slice p6_4.1 x6_4.length p6_4.2, .slice p9_5.1 x9_5.length p9_5.2, .int .i64 0]) (by kernel_rfl) (by kernel_rfl) (by kernel_rfl) (by kernel_rfl) (by kernel_rfl) (by decide)
        · refine J.drawS (by kernel_rfl) [(0, some 28, .slice h0.1 a0.length h0.2), (3, some 31, .slice p6_4.1 x6_4.length p6_4.2), (6, some 34, .slice h0.1 a0.length h0.2)] ([0, 3, 6] ++ []) (by kernel_rfl) ?_
          refine D.mid (cs := [1, 7]) [0, 3, 6] [] [] [] (by kernel_rfl) (by kernel_rfl) trivial (by kernel_rfl) ⟨?_, ?_, trivial⟩
          · refine EvStep.mk (some 29) (new := fun p7_1 => []) ([3, 6] ++ []) (by kernel_rfl) (Ev.cut (d := (Kd.int .u8)) (xs := a0) (t := 22) (x := .tmp 28) (lo := none) (hi := (some (.const (.int .i64 4)))) (vlo := none) (vhi := (some (.int .i64 4))) (A := h0.1) (c := h0.2) (l := (0 : Int).toNat) (h := (4 : Int).toNat) 2 (by kernel_rfl) (by kernel_rfl) (by kernel_rfl) (by kernel_rfl) (by kernel_rfl) (Bd.dflt _) (Bd.val _ _ _ (by omega)) (by omega) (by omega) rfl) (fun p7_1 => by kernel_rfl) (fun p7_1 => ?_)
            refine D.mid (cs := [2, 7]) [3, 6] [] [] [] (by kernel_rfl) (by kernel_rfl) trivial (by kernel_rfl) ⟨?_, ?_, trivial⟩
            · refine EvStep.mk (some 30) (new := fun p7_2 => []) ([3, 6] ++ []) (by kernel_rfl) (Ev.call0 (xs := [.tmp 29]) [0] (by kernel_rfl) (by kernel_rfl) (fun w hS => code_rest.con K (cutL a0 ((0 : Int).toNat) ((4 : Int).toNat)) p7_1  _ _ w hS hx7_2)) (fun p7_2 => by kernel_rfl) (fun p7_2 => ?_)
              refine D.mid (cs := [4, 7]) [3, 6] [] [] [] (by kernel_rfl) (by kernel_rfl) trivial (by kernel_rfl) ⟨?_, ?_, trivial⟩
              · refine EvStep.mk (some 32) (new := fun p7_4 => []) ([6] ++ []) (by kernel_rfl) (Ev.mono (fun w hS => hS.rowsel [1, 0] rfl (by decide)) (Ev.mono (fun w hS => hS.freezeH (h := p6_4) (xs := x6_4)) (Ev.appSl (d := (Kd.int .u8)) (ys := x6_4) (A := p6_4.1) (c := p6_4.2) (x := .tmp 30) (y := .tmp 31) (t := 22) (bytes := 1) 0 (by kernel_rfl) (by kernel_rfl) (by kernel_rfl) rfl (by kernel_rfl) (by decide) hy7_4a))) (fun p7_4 => by kernel_rfl) (fun p7_4 => ?_)
                refine D.mid (cs := [5, 7]) [6] [] [] [] (by kernel_rfl) (by kernel_rfl) trivial (by kernel_rfl) ⟨?_, ?_, trivial⟩
                · refine EvStep.mk (some 33) (new := fun _ => []) ([6] ++ []) (by kernel_rfl) (Ev.callL (hh := p7_4) (xs := (x7_2 ++ x6_4)) (m := (x7_2 ++ x6_4).length) (xs1 := [.tmp 32]) [0] rfl (by kernel_rfl) (by kernel_rfl) (fun _ q hq => by cases hq) (fun w hS => code_Sum.con K (x7_2 ++ x6_4) p7_4  _ _ w hS hx7_5)) (fun _ => by kernel_rfl) (fun _ => ?_)
                  refine D.mid (cs := [7]) [6] [] [] [] (by kernel_rfl) (by kernel_rfl) trivial (by kernel_rfl) ⟨?_, trivial⟩
                  refine EvStep.mk (some 35) (new := fun p7_7 => []) ([] ++ []) (by kernel_rfl) (Ev.cut (d := (Kd.int .u8)) (xs := a0) (t := 22) (x := .tmp 34) (lo := (some (.const (.int .i64 4)))) (hi := (some (.const (.int .i64 8)))) (vlo := (some (.int .i64 4))) (vhi := (some (.int .i64 8))) (A := h0.1) (c := h0.2) (l := (4 : Int).toNat) (h := (8 : Int).toNat) 4 (by kernel_rfl) (by kernel_rfl) (by kernel_rfl) (by kernel_rfl) (by kernel_rfl) (Bd.val _ _ _ (by omega)) (Bd.val _ _ _ (by omega)) (by omega) (by omega) rfl) (fun p7_7 => by kernel_rfl) (fun p7_7 => ?_)
                  refine D.mid (cs := [8]) [] [] [] [] (by kernel_rfl) (by kernel_rfl) trivial (by kernel_rfl) ⟨?_, trivial⟩
                  refine EvStep.mk (some 36) (new := fun _ => [(9, some 37, .int .u32 (IntKind.wrap .u32 x7_8)), (10, some 38, .bool (x7_5 != (IntKind.wrap .u32 x7_8)))]) ([9, 10] ++ []) (by kernel_rfl) (Ev.call0 (xs := [.tmp 35]) [0] (by kernel_rfl) (by kernel_rfl) (fun w hS => code_get.con K (cutL a0 ((4 : Int).toNat) ((8 : Int).toNat)) p7_7  _ _ w hS hx7_8)) (fun _ => by kernel_rfl) (fun _ => ?_)
                  refine D.fin (fr' := [(0, .slice h0.1 a0.length h0.2), (5, .int .u64 x3_2), (6, .slice p6_4.1 x6_4.length p6_4.2), (38, .bool (x7_5 != (IntKind.wrap .u32 x7_8)))]) [9, 10] [] [] [] [0, 5, 6, 38] (by kernel_rfl) (by kernel_rfl) trivial (by kernel_rfl) ?_
                  exact J.conv2 [0, 5, 6, 38] [0, 1, 2, 3, 4, 5] [] [0] (by kernel_rfl) (by kernel_rfl) (by kernel_rfl) (by kernel_rfl) (by decide) (hk_ (p7_1, p7_2, p7_4, p7_7))
                · refine EvStep.mk (some 35) (new := fun p7_7 => []) ([] ++ []) (by kernel_rfl) (Ev.cut (d := (Kd.int .u8)) (xs := a0) (t := 22) (x := .tmp 34) (lo := (some (.const (.int .i64 4)))) (hi := (some (.const (.int .i64 8)))) (vlo := (some (.int .i64 4))) (vhi := (some (.int .i64 8))) (A := h0.1) (c := h0.2) (l := (4 : Int).toNat) (h := (8 : Int).toNat) 4 (by kernel_rfl) (by kernel_rfl) (by kernel_rfl) (by kernel_rfl) (by kernel_rfl) (Bd.val _ _ _ (by omega)) (Bd.val _ _ _ (by omega)) (by omega) (by omega) rfl) (fun p7_7 => by kernel_rfl) (fun p7_7 => ?_)
                  refine D.mid (cs := [5]) [] [] [] [] (by kernel_rfl) (by kernel_rfl) trivial (by kernel_rfl) ⟨?_, trivial⟩
                  refine EvStep.mk (some 33) (new := fun _ => []) ([] ++ []) (by kernel_rfl) (Ev.callL (hh := p7_4) (xs := (x7_2 ++ x6_4)) (m := (x7_2 ++ x6_4).length) (xs1 := [.tmp 32]) [0] rfl (by kernel_rfl) (by kernel_rfl) (fun _ q hq => by cases hq) (fun w hS => code_Sum.con K (x7_2 ++ x6_4) p7_4  _ _ w hS hx7_5)) (fun _ => by kernel_rfl) (fun _ => ?_)
                  refine D.mid (cs := [8]) [] [] [] [] (by kernel_rfl) (by kernel_rfl) trivial (by kernel_rfl) ⟨?_, trivial⟩
                  refine EvStep.mk (some 36) (new := fun _ => [(9, some 37, .int .u32 (IntKind.wrap .u32 x7_8)), (10, some 38, .bool (x7_5 != (IntKind.wrap .u32 x7_8)))]) ([9, 10] ++ []) (by kernel_rfl) (Ev.call0 (xs := [.tmp 35]) [0] (by kernel_rfl) (by kernel_rfl) (fun w hS => code_get.con K (cutL a0 ((4 : Int).toNat) ((8 : Int).toNat)) p7_7  _ _ w hS hx7_8)) (fun _ => by kernel_rfl) (fun _ => ?_)
                  refine D.fin (fr' := [(0, .slice h0.1 a0.length h0.2), (5, .int .u64 x3_2), (6, .slice p6_4.1 x6_4.length p6_4.2), (38, .bool (x7_5 != (IntKind.wrap .u32 x7_8)))]) [9, 10] [] [] [] [0, 5, 6, 38] (by kernel_rfl) (by kernel_rfl) trivial (by kernel_rfl) ?_
                  exact J.conv2 [0, 5, 6, 38] [0, 1, 2, 3, 4, 5] [] [0] (by kernel_rfl) (by kernel_rfl) (by kernel_rfl) (by kernel_rfl) (by decide) (hk_ (p7_1, p7_2, p7_4, p7_7))
              · refine EvStep.mk (some 35) (new := fun p7_7 => []) ([3] ++ []) (by kernel_rfl) (Ev.cut (d := (Kd.int .u8)) (xs := a0) (t := 22) (x := .tmp 34) (lo := (some (.const (.int .i64 4)))) (hi := (some (.const (.int .i64 8)))) (vlo := (some (.int .i64 4))) (vhi := (some (.int .i64 8))) (A := h0.1) (c := h0.2) (l := (4 : Int).toNat) (h := (8 : Int).toNat) 3 (by kernel_rfl) (by kernel_rfl) (by kernel_rfl) (by kernel_rfl) (by kernel_rfl) (Bd.val _ _ _ (by omega)) (Bd.val _ _ _ (by omega)) (by omega) (by omega) rfl) (fun p7_7 => by kernel_rfl) (fun p7_7 => ?_)
                refine D.mid (cs := [4]) [3] [] [] [] (by kernel_rfl) (by kernel_rfl) trivial (by kernel_rfl) ⟨?_, trivial⟩
                refine EvStep.mk (some 32) (new := fun p7_4 => []) ([] ++ []) (by kernel_rfl) (Ev.mono (fun w hS => hS.rowsel [1, 0] rfl (by decide)) (Ev.mono (fun w hS => hS.freezeH (h := p6_4) (xs := x6_4)) (Ev.appSl (d := (Kd.int .u8)) (ys := x6_4) (A := p6_4.1) (c := p6_4.2) (x := .tmp 30) (y := .tmp 31) (t := 22) (bytes := 1) 0 (by kernel_rfl) (by kernel_rfl) (by kernel_rfl) rfl (by kernel_rfl) (by decide) hy7_4a))) (fun p7_4 => by kernel_rfl) (fun p7_4 => ?_)
                refine D.mid (cs := [5]) [] [] [] [] (by kernel_rfl) (by kernel_rfl) trivial (by kernel_rfl) ⟨?_, trivial⟩
                refine EvStep.mk (some 33) (new := fun _ => []) ([] ++ []) (by kernel_rfl) (Ev.callL (hh := p7_4) (xs := (x7_2 ++ x6_4)) (m := (x7_2 ++ x6_4).length) (xs1 := [.tmp 32]) [0] rfl (by kernel_rfl) (by kernel_rfl) (fun _ q hq => by cases hq) (fun w hS => code_Sum.con K (x7_2 ++ x6_4) p7_4  _ _ w hS hx7_5)) (fun _ => by kernel_rfl) (fun _ => ?_)
                refine D.mid (cs := [8]) [] [] [] [] (by kernel_rfl) (by kernel_rfl) trivial (by kernel_rfl) ⟨?_, trivial⟩
                refine EvStep.mk (some 36) (new := fun _ => [(9, some 37, .int .u32 (IntKind.wrap .u32 x7_8)), (10, some 38, .bool (x7_5 != (IntKind.wrap .u32 x7_8)))]) ([9, 10] ++ []) (by kernel_rfl) (Ev.call0 (xs := [.tmp 35]) [1] (by kernel_rfl) (by kernel_rfl) (fun w hS => code_get.con K (cutL a0 ((4 : Int).toNat) ((8 : Int).toNat)) p7_7  _ _ w hS hx7_8)) (fun _ => by kernel_rfl) (fun _ => ?_)
                refine D.fin (fr' := [(0, .slice h0.1 a0.length h0.2), (5, .int .u64 x3_2), (6, .slice p6_4.1 x6_4.length p6_4.2), (38, .bool (x7_5 != (IntKind.wrap .u32 x7_8)))]) [9, 10] [] [] [] [0, 5, 6, 38] (by kernel_rfl) (by kernel_rfl) trivial (by kernel_rfl) ?_
                exact J.conv2 [0, 5, 6, 38] [1, 0, 2, 3, 4, 5] [] [0] (by kernel_rfl) (by kernel_rfl) (by kernel_rfl) (by kernel_rfl) (by decide) (hk_ (p7_1, p7_2, p7_4, p7_7))
            · refine EvStep.mk (some 35) (new := fun p7_7 => []) ([3] ++ []) (by kernel_rfl) (Ev.cut (d := (Kd.int .u8)) (xs := a0) (t := 22) (x := .tmp 34) (lo := (some (.const (.int .i64 4)))) (hi := (some (.const (.int .i64 8)))) (vlo := (some (.int .i64 4))) (vhi := (some (.int .i64 8))) (A := h0.1) (c := h0.2) (l := (4 : Int).toNat) (h := (8 : Int).toNat) 3 (by kernel_rfl) (by kernel_rfl) (by kernel_rfl) (by kernel_rfl) (by kernel_rfl) (Bd.val _ _ _ (by omega)) (Bd.val _ _ _ (by omega)) (by omega) (by omega) rfl) (fun p7_7 => by kernel_rfl) (fun p7_7 => ?_)
              refine D.mid (cs := [2]) [3] [] [] [] (by kernel_rfl) (by kernel_rfl) trivial (by kernel_rfl) ⟨?_, trivial⟩
              refine EvStep.mk (some 30) (new := fun p7_2 => []) ([3] ++ []) (by kernel_rfl) (Ev.call0 (xs := [.tmp 29]) [1] (by kernel_rfl) (by kernel_rfl) (fun w hS => code_rest.con K (cutL a0 ((0 : Int).toNat) ((4 : Int).toNat)) p7_1  _ _ w hS hx7_2)) (fun p7_2 => by kernel_rfl) (fun p7_2 => ?_)
              refine D.mid (cs := [4]) [3] [] [] [] (by kernel_rfl) (by kernel_rfl) trivial (by kernel_rfl) ⟨?_, trivial⟩
              refine EvStep.mk (some 32) (new := fun p7_4 => []) ([] ++ []) (by kernel_rfl) (Ev.mono (fun w hS => hS.rowsel [1, 0] rfl (by decide)) (Ev.mono (fun w hS => hS.freezeH (h := p6_4) (xs := x6_4)) (Ev.appSl (d := (Kd.int .u8)) (ys := x6_4) (A := p6_4.1) (c := p6_4.2) (x := .tmp 30) (y := .tmp 31) (t := 22) (bytes := 1) 0 (by kernel_rfl) (by kernel_rfl) (by kernel_rfl) rfl (by kernel_rfl) (by decide) hy7_4a))) (fun p7_4 => by kernel_rfl) (fun p7_4 => ?_)
              refine D.mid (cs := [5]) [] [] [] [] (by kernel_rfl) (by kernel_rfl) trivial (by kernel_rfl) ⟨?_, trivial⟩
              refine EvStep.mk (some 33) (new := fun _ => []) ([] ++ []) (by kernel_rfl) (Ev.callL (hh := p7_4) (xs := (x7_2 ++ x6_4)) (m := (x7_2 ++ x6_4).length) (xs1 := [.tmp 32]) [0] rfl (by kernel_rfl) (by kernel_rfl) (fun _ q hq => by cases hq) (fun w hS => code_Sum.con K (x7_2 ++ x6_4) p7_4  _ _ w hS hx7_5)) (fun _ => by kernel_rfl) (fun _ => ?_)
              refine D.mid (cs := [8]) [] [] [] [] (by kernel_rfl) (by kernel_rfl) trivial (by kernel_rfl) ⟨?_, trivial⟩
              refine EvStep.mk (some 36) (new := fun _ => [(9, some 37, .int .u32 (IntKind.wrap .u32 x7_8)), (10, some 38, .bool (x7_5 != (IntKind.wrap .u32 x7_8)))]) ([9, 10] ++ []) (by kernel_rfl) (Ev.call0 (xs := [.tmp 35]) [1] (by kernel_rfl) (by kernel_rfl) (fun w hS => code_get.con K (cutL a0 ((4 : Int).toNat) ((8 : Int).toNat)) p7_7  _ _ w hS hx7_8)) (fun _ => by kernel_rfl) (fun _ => ?_)
              refine D.fin (fr' := [(0, .slice h0.1 a0.length h0.2), (5, .int .u64 x3_2), (6, .slice p6_4.1 x6_4.length p6_4.2), (38, .bool (x7_5 != (IntKind.wrap .u32 x7_8)))]) [9, 10] [] [] [] [0, 5, 6, 38] (by kernel_rfl) (by kernel_rfl) trivial (by kernel_rfl) ?_
              exact J.conv2 [0, 5, 6, 38] [1, 0, 2, 3, 4, 5] [] [0] (by kernel_rfl) (by kernel_rfl) (by kernel_rfl) (by kernel_rfl) (by decide) (hk_ (p7_1, p7_2, p7_4, p7_7))
          · refine EvStep.mk (some 35) (new := fun p7_7 => []) ([0, 3] ++ []) (by kernel_rfl) (Ev.cut (d := (Kd.int .u8)) (xs := a0) (t := 22) (x := .tmp 34) (lo := (some (.const (.int .i64 4)))) (hi := (some (.const (.int .i64 8)))) (vlo := (some (.int .i64 4))) (vhi := (some (.int .i64 8))) (A := h0.1) (c := h0.2) (l := (4 : Int).toNat) (h := (8 : Int).toNat) 2 (by kernel_rfl) (by kernel_rfl) (by kernel_rfl) (by kernel_rfl) (by kernel_rfl) (Bd.val _ _ _ (by omega)) (Bd.val _ _ _ (by omega)) (by omega) (by omega) rfl) (fun p7_7 => by kernel_rfl) (fun p7_7 => ?_)
            refine D.mid (cs := [1]) [0, 3] [] [] [] (by kernel_rfl) (by kernel_rfl) trivial (by kernel_rfl) ⟨?_, trivial⟩
            refine EvStep.mk (some 29) (new := fun p7_1 => []) ([3] ++ []) (by kernel_rfl) (Ev.cut (d := (Kd.int .u8)) (xs := a0) (t := 22) (x := .tmp 28) (lo := none) (hi := (some (.const (.int .i64 4)))) (vlo := none) (vhi := (some (.int .i64 4))) (A := h0.1) (c := h0.2) (l := (0 : Int).toNat) (h := (4 : Int).toNat) 3 (by kernel_rfl) (by kernel_rfl) (by kernel_rfl) (by kernel_rfl) (by kernel_rfl) (Bd.dflt _) (Bd.val _ _ _ (by omega)) (by omega) (by omega) rfl) (fun p7_1 => by kernel_rfl) (fun p7_1 => ?_)
            refine D.mid (cs := [2]) [3] [] [] [] (by kernel_rfl) (by kernel_rfl) trivial (by kernel_rfl) ⟨?_, trivial⟩
            refine EvStep.mk (some 30) (new := fun p7_2 => []) ([3] ++ []) (by kernel_rfl) (Ev.call0 (xs := [.tmp 29]) [0] (by kernel_rfl) (by kernel_rfl) (fun w hS => code_rest.con K (cutL a0 ((0 : Int).toNat) ((4 : Int).toNat)) p7_1  _ _ w hS hx7_2)) (fun p7_2 => by kernel_rfl) (fun p7_2 => ?_)
            refine D.mid (cs := [4]) [3] [] [] [] (by kernel_rfl) (by kernel_rfl) trivial (by kernel_rfl) ⟨?_, trivial⟩
            refine EvStep.mk (some 32) (new := fun p7_4 => []) ([] ++ []) (by kernel_rfl) (Ev.mono (fun w hS => hS.rowsel [1, 0] rfl (by decide)) (Ev.mono (fun w hS => hS.freezeH (h := p6_4) (xs := x6_4)) (Ev.appSl (d := (Kd.int .u8)) (ys := x6_4) (A := p6_4.1) (c := p6_4.2) (x := .tmp 30) (y := .tmp 31) (t := 22) (bytes := 1) 0 (by kernel_rfl) (by kernel_rfl) (by kernel_rfl) rfl (by kernel_rfl) (by decide) hy7_4a))) (fun p7_4 => by kernel_rfl) (fun p7_4 => ?_)
            refine D.mid (cs := [5]) [] [] [] [] (by kernel_rfl) (by kernel_rfl) trivial (by kernel_rfl) ⟨?_, trivial⟩
            refine EvStep.mk (some 33) (new := fun _ => []) ([] ++ []) (by kernel_rfl) (Ev.callL (hh := p7_4) (xs := (x7_2 ++ x6_4)) (m := (x7_2 ++ x6_4).length) (xs1 := [.tmp 32]) [0] rfl (by kernel_rfl) (by kernel_rfl) (fun _ q hq => by cases hq) (fun w hS => code_Sum.con K (x7_2 ++ x6_4) p7_4  _ _ w hS hx7_5)) (fun _ => by kernel_rfl) (fun _ => ?_)
            refine D.mid (cs := [8]) [] [] [] [] (by kernel_rfl) (by kernel_rfl) trivial (by kernel_rfl) ⟨?_, trivial⟩
            refine EvStep.mk (some 36) (new := fun _ => [(9, some 37, .int .u32 (IntKind.wrap .u32 x7_8)), (10, some 38, .bool (x7_5 != (IntKind.wrap .u32 x7_8)))]) ([9, 10] ++ []) (by kernel_rfl) (Ev.call0 (xs := [.tmp 35]) [2] (by kernel_rfl) (by kernel_rfl) (fun w hS => code_get.con K (cutL a0 ((4 : Int).toNat) ((8 : Int).toNat)) p7_7  _ _ w hS hx7_8)) (fun _ => by kernel_rfl) (fun _ => ?_)
            refine D.fin (fr' := [(0, .slice h0.1 a0.length h0.2), (5, .int .u64 x3_2), (6, .slice p6_4.1 x6_4.length p6_4.2), (38, .bool (x7_5 != (IntKind.wrap .u32 x7_8)))]) [9, 10] [] [] [] [0, 5, 6, 38] (by kernel_rfl) (by kernel_rfl) trivial (by kernel_rfl) ?_
            exact J.conv2 [0, 5, 6, 38] [2, 0, 1, 3, 4, 5] [] [0] (by kernel_rfl) (by kernel_rfl) (by kernel_rfl) (by kernel_rfl) (by decide) (hk_ (p7_1, p7_2, p7_4, p7_7))
/-! ### haywain/code.TakeNum: function 22 -/
def code_TakeNum.f (K : Nat) (a0 : List Int) : Option (Int × (List Int) × Int) := cond (decide ((a0.length : Int) < 8)) (some ((0, ([] : List Int), 2))) ((cutO a0 0 8).bind fun y3_1 => (code_get.f K (cutL a0 ((0 : Int).toNat) ((8 : Int).toNat))).bind fun x3_2 => (cutO a0 8 (a0.length : Int)).bind fun y3_5 => (code_rest.f K (cutL a0 ((8 : Int).toNat) (((a0.length : Int) : Int).toNat))).bind fun x3_6 => some (((IntKind.wrap .i64 x3_2), x3_6, 0)))
set_option maxRecDepth 100000 in
set_option maxHeartbeats 1000000 in
theorem code_TakeNum.con (K : Nat) (a0 : List Int) (h0 : Hd) (r : (Int × (List Int) × Int)) (X : Nat → Nat → Prop) (w : World) (hS : St X w [] [] [] [] [Rd (Kd.int .u8) h0.1 h0.2 a0] w) (H : code_TakeNum.f K a0 = some r) :
    Cn Try.prog 22 [.slice h0.1 a0.length h0.2] X w [] (fun i : Hd => .tuple #[.int .i64 r.1, .slice i.1 r.2.1.length i.2, .int .i64 r.2.2]) (fun i => []) (fun i => [mkRow (Kd.int .u8) 5 (.slice i.1 r.2.1.length i.2) r.2.1]) (fun i => []) := by
  refine Cn.of Try.func22 (by kernel_rfl) hS ?_
  unfold code_TakeNum.f at H
  refine J.seq (by kernel_rfl) ?_
  refine J.region (by kernel_rfl) ?_
  refine O.pure 3 [] [0] [] (fr' := [(0, .slice h0.1 a0.length h0.2)]) (bx' := []) (by kernel_rfl) ?_
  refine O.nil (by kernel_rfl) ?_
  refine J.seq (by kernel_rfl) ?_
  refine J.seq (by kernel_rfl) ?_
  refine J.region (by kernel_rfl) ?_
  refine O.pure 3 [] [0, 7] [] (fr' := [(0, .slice h0.1 a0.length h0.2), (7, .bool (decide ((a0.length : Int) < 8)))]) (bx' := []) (by kernel_rfl) ?_
  refine O.nil (by kernel_rfl) ?_
  rcases condE H with ⟨hc1, H⟩ | ⟨hc1, H⟩
  · refine J.condT (x := .tmp 7) (t := (decide ((a0.length : Int) < 8))) (by kernel_rfl) (by kernel_rfl) hc1 ?_
    refine J.seq (by kernel_rfl) ?_
    refine J.region (by kernel_rfl) ?_
    refine O.pure 3 [] [2, 3, 4] [] (fr' := [(2, .int .i64 0), (3, .slice none 0 0), (4, .int .i64 2)]) (bx' := []) (by kernel_rfl) ?_
    refine O.nil (by kernel_rfl) ?_
    obtain rfl := Option.some.inj H
    refine J.nilrow (Kd.int .u8) 5 ?_
    exact J.doneS [] [] [] [] [0] (none, 0) (vs := [.int .i64 0, .slice none 0 0, .int .i64 2]) (by kernel_rfl) (by kernel_rfl) (by kernel_rfl) (by kernel_rfl) (by kernel_rfl) (by decide)
  · refine J.condF (x := .tmp 7) (t := (decide ((a0.length : Int) < 8))) (by kernel_rfl) (by kernel_rfl) hc1 ?_
    refine J.skip (by kernel_rfl) ?_
    refine J.seq (by kernel_rfl) ?_
    obtain ⟨y3_1, hy3_1, H⟩ := bindE H
    obtain ⟨hy3_1a, hy3_1b, hy3_1c, -⟩ := cutE hy3_1
    obtain ⟨x3_2, hx3_2, H⟩ := bindE H
    obtain ⟨y3_5, hy3_5, H⟩ := bindE H
    obtain ⟨hy3_5a, hy3_5b, hy3_5c, -⟩ := cutE hy3_5
    obtain ⟨x3_6, hx3_6, H⟩ := bindE H
    refine J.cutAt (γ := Hd × Hd × Hd) (fun q_ => [(2, .int .i64 (IntKind.wrap .i64 x3_2)), (3, .slice q_.2.2.1 x3_6.length q_.2.2.2), (4, .int .i64 0)]) (fun q_ => St X w [] [] [mkRow (Kd.int .u8) 5 (.slice q_.2.2.1 x3_6.length q_.2.2.2) x3_6] [] [Rd (Kd.int .u8) q_.2.1.1 q_.2.1.2 (cutL a0 ((8 : Int).toNat) (((a0.length : Int) : Int).toNat)), Rd (Kd.int .u8) q_.1.1 q_.1.2 (cutL a0 ((0 : Int).toNat) ((8 : Int).toNat)), Rd (Kd.int .u8) h0.1 h0.2 a0]) (fun q_ => ?_) (fun hk_ => ?_)
    · obtain ⟨p3_1, p3_5, p3_6⟩ := q_
      obtain rfl := Option.some.inj H
      exact J.doneS [] [] [] [] [0] p3_6 (vs := [.int .i64 (IntKind.wrap .i64 x3_2), .slice p3_6.1 x3_6.length p3_6.2, .int .i64 0]) (by kernel_rfl) (by kernel_rfl) (by kernel_rfl) (by kernel_rfl) (by kernel_rfl) (by decide)
    · refine J.drawS (by kernel_rfl) [(0, some 8, .slice h0.1 a0.length h0.2), (4, some 12, .slice h0.1 a0.length h0.2)] ([0, 4] ++ []) (by kernel_rfl) ?_
      refine D.mid (cs := [1, 5]) [0, 4] [] [] [] (by kernel_rfl) (by kernel_rfl) trivial (by kernel_rfl) ⟨?_, ?_, trivial⟩
      · refine EvStep.mk (some 9) (new := fun p3_1 => []) ([4] ++ []) (by kernel_rfl) (Ev.cut (d := (Kd.int .u8)) (xs := a0) (t := 22) (x := .tmp 8) (lo := none) (hi := (some (.const (.int .i64 8)))) (vlo := none) (vhi := (some (.int .i64 8))) (A := h0.1) (c := h0.2) (l := (0 : Int).toNat) (h := (8 : Int).toNat) 0 (by kernel_rfl) (by kernel_rfl) (by kernel_rfl) (by kernel_rfl) (by kernel_rfl) (Bd.dflt _) (Bd.val _ _ _ (by omega)) (by omega) (by omega) rfl) (fun p3_1 => by kernel_rfl) (fun p3_1 => ?_)
        refine D.mid (cs := [2, 5]) [4] [] [] [] (by kernel_rfl) (by kernel_rfl) trivial (by kernel_rfl) ⟨?_, ?_, trivial⟩
        · refine EvStep.mk (some 10) (new := fun _ => [(3, some 11, .int .i64 (IntKind.wrap .i64 x3_2))]) ([4, 3] ++ []) (by kernel_rfl) (Ev.call0 (xs := [.tmp 9]) [0] (by kernel_rfl) (by kernel_rfl) (fun w hS => code_get.con K (cutL a0 ((0 : Int).toNat) ((8 : Int).toNat)) p3_1  _ _ w hS hx3_2)) (fun _ => by kernel_rfl) (fun _ => ?_)
          refine D.mid (cs := [5]) [4, 3] [] [] [] (by kernel_rfl) (by kernel_rfl) trivial (by kernel_rfl) ⟨?_, trivial⟩
          refine EvStep.mk (some 13) (new := fun p3_5 => []) ([3] ++ []) (by kernel_rfl) (Ev.cut (d := (Kd.int .u8)) (xs := a0) (t := 22) (x := .tmp 12) (lo := (some (.const (.int .i64 8)))) (hi := none) (vlo := (some (.int .i64 8))) (vhi := none) (A := h0.1) (c := h0.2) (l := (8 : Int).toNat) (h := ((a0.length : Int) : Int).toNat) 1 (by kernel_rfl) (by kernel_rfl) (by kernel_rfl) (by kernel_rfl) (by kernel_rfl) (Bd.val _ _ _ (by omega)) (Bd.dflt _) (by omega) (by omega) rfl) (fun p3_5 => by kernel_rfl) (fun p3_5 => ?_)
          refine D.mid (cs := [6]) [3] [] [] [] (by kernel_rfl) (by kernel_rfl) trivial (by kernel_rfl) ⟨?_, trivial⟩
          refine EvStep.mk (some 14) (new := fun p3_6 => [(7, some 2, .int .i64 (IntKind.wrap .i64 x3_2)), (8, some 3, .slice p3_6.1 x3_6.length p3_6.2), (9, some 4, .int .i64 0)]) ([3, 7, 8, 9] ++ []) (by kernel_rfl) (Ev.call0 (xs := [.tmp 13]) [0] (by kernel_rfl) (by kernel_rfl) (fun w hS => code_rest.con K (cutL a0 ((8 : Int).toNat) (((a0.length : Int) : Int).toNat)) p3_5  _ _ w hS hx3_6)) (fun p3_6 => by kernel_rfl) (fun p3_6 => ?_)
          refine D.fin (fr' := [(2, .int .i64 (IntKind.wrap .i64 x3_2)), (3, .slice p3_6.1 x3_6.length p3_6.2), (4, .int .i64 0)]) [3, 7, 8, 9] [] [] [] [2, 3, 4] (by kernel_rfl) (by kernel_rfl) trivial (by kernel_rfl) ?_
          exact J.conv2 [2, 3, 4] [0, 1, 2] [] [0] (by kernel_rfl) (by kernel_rfl) (by kernel_rfl) (by kernel_rfl) (by decide) (hk_ (p3_1, p3_5, p3_6))
        · refine EvStep.mk (some 13) (new := fun p3_5 => []) ([] ++ []) (by kernel_rfl) (Ev.cut (d := (Kd.int .u8)) (xs := a0) (t := 22) (x := .tmp 12) (lo := (some (.const (.int .i64 8)))) (hi := none) (vlo := (some (.int .i64 8))) (vhi := none) (A := h0.1) (c := h0.2) (l := (8 : Int).toNat) (h := ((a0.length : Int) : Int).toNat) 1 (by kernel_rfl) (by kernel_rfl) (by kernel_rfl) (by kernel_rfl) (by kernel_rfl) (Bd.val _ _ _ (by omega)) (Bd.dflt _) (by omega) (by omega) rfl) (fun p3_5 => by kernel_rfl) (fun p3_5 => ?_)
          refine D.mid (cs := [2]) [] [] [] [] (by kernel_rfl) (by kernel_rfl) trivial (by kernel_rfl) ⟨?_, trivial⟩
          refine EvStep.mk (some 10) (new := fun _ => [(3, some 11, .int .i64 (IntKind.wrap .i64 x3_2))]) ([3] ++ []) (by kernel_rfl) (Ev.call0 (xs := [.tmp 9]) [1] (by kernel_rfl) (by kernel_rfl) (fun w hS => code_get.con K (cutL a0 ((0 : Int).toNat) ((8 : Int).toNat)) p3_1  _ _ w hS hx3_2)) (fun _ => by kernel_rfl) (fun _ => ?_)
          refine D.mid (cs := [6]) [3] [] [] [] (by kernel_rfl) (by kernel_rfl) trivial (by kernel_rfl) ⟨?_, trivial⟩
          refine EvStep.mk (some 14) (new := fun p3_6 => [(7, some 2, .int .i64 (IntKind.wrap .i64 x3_2)), (8, some 3, .slice p3_6.1 x3_6.length p3_6.2), (9, some 4, .int .i64 0)]) ([3, 7, 8, 9] ++ []) (by kernel_rfl) (Ev.call0 (xs := [.tmp 13]) [0] (by kernel_rfl) (by kernel_rfl) (fun w hS => code_rest.con K (cutL a0 ((8 : Int).toNat) (((a0.length : Int) : Int).toNat)) p3_5  _ _ w hS hx3_6)) (fun p3_6 => by kernel_rfl) (fun p3_6 => ?_)
          refine D.fin (fr' := [(2, .int .i64 (IntKind.wrap .i64 x3_2)), (3, .slice p3_6.1 x3_6.length p3_6.2), (4, .int .i64 0)]) [3, 7, 8, 9] [] [] [] [2, 3, 4] (by kernel_rfl) (by kernel_rfl) trivial (by kernel_rfl) ?_
          exact J.conv2 [2, 3, 4] [0, 1, 2] [] [0] (by kernel_rfl) (by kernel_rfl) (by kernel_rfl) (by kernel_rfl) (by decide) (hk_ (p3_1, p3_5, p3_6))
      · refine EvStep.mk (some 13) (new := fun p3_5 => []) ([0] ++ []) (by kernel_rfl) (Ev.cut (d := (Kd.int .u8)) (xs := a0) (t := 22) (x := .tmp 12) (lo := (some (.const (.int .i64 8)))) (hi := none) (vlo := (some (.int .i64 8))) (vhi := none) (A := h0.1) (c := h0.2) (l := (8 : Int).toNat) (h := ((a0.length : Int) : Int).toNat) 0 (by kernel_rfl) (by kernel_rfl) (by kernel_rfl) (by kernel_rfl) (by kernel_rfl) (Bd.val _ _ _ (by omega)) (Bd.dflt _) (by omega) (by omega) rfl) (fun p3_5 => by kernel_rfl) (fun p3_5 => ?_)
        refine D.mid (cs := [1]) [0] [] [] [] (by kernel_rfl) (by kernel_rfl) trivial (by kernel_rfl) ⟨?_, trivial⟩
        refine EvStep.mk (some 9) (new := fun p3_1 => []) ([] ++ []) (by kernel_rfl) (Ev.cut (d := (Kd.int .u8)) (xs := a0) (t := 22) (x := .tmp 8) (lo := none) (hi := (some (.const (.int .i64 8)))) (vlo := none) (vhi := (some (.int .i64 8))) (A := h0.1) (c := h0.2) (l := (0 : Int).toNat) (h := (8 : Int).toNat) 1 (by kernel_rfl) (by kernel_rfl) (by kernel_rfl) (by kernel_rfl) (by kernel_rfl) (Bd.dflt _) (Bd.val _ _ _ (by omega)) (by omega) (by omega) rfl) (fun p3_1 => by kernel_rfl) (fun p3_1 => ?_)
        refine D.mid (cs := [2]) [] [] [] [] (by kernel_rfl) (by kernel_rfl) trivial (by kernel_rfl) ⟨?_, trivial⟩
        refine EvStep.mk (some 10) (new := fun _ => [(3, some 11, .int .i64 (IntKind.wrap .i64 x3_2))]) ([3] ++ []) (by kernel_rfl) (Ev.call0 (xs := [.tmp 9]) [0] (by kernel_rfl) (by kernel_rfl) (fun w hS => code_get.con K (cutL a0 ((0 : Int).toNat) ((8 : Int).toNat)) p3_1  _ _ w hS hx3_2)) (fun _ => by kernel_rfl) (fun _ => ?_)
        refine D.mid (cs := [6]) [3] [] [] [] (by kernel_rfl) (by kernel_rfl) trivial (by kernel_rfl) ⟨?_, trivial⟩
        refine EvStep.mk (some 14) (new := fun p3_6 => [(7, some 2, .int .i64 (IntKind.wrap .i64 x3_2)), (8, some 3, .slice p3_6.1 x3_6.length p3_6.2), (9, some 4, .int .i64 0)]) ([3, 7, 8, 9] ++ []) (by kernel_rfl) (Ev.call0 (xs := [.tmp 13]) [1] (by kernel_rfl) (by kernel_rfl) (fun w hS => code_rest.con K (cutL a0 ((8 : Int).toNat) (((a0.length : Int) : Int).toNat)) p3_5  _ _ w hS hx3_6)) (fun p3_6 => by kernel_rfl) (fun p3_6 => ?_)
        refine D.fin (fr' := [(2, .int .i64 (IntKind.wrap .i64 x3_2)), (3, .slice p3_6.1 x3_6.length p3_6.2), (4, .int .i64 0)]) [3, 7, 8, 9] [] [] [] [2, 3, 4] (by kernel_rfl) (by kernel_rfl) trivial (by kernel_rfl) ?_
        exact J.conv2 [2, 3, 4] [1, 0, 2] [] [0] (by kernel_rfl) (by kernel_rfl) (by kernel_rfl) (by kernel_rfl) (by decide) (hk_ (p3_1, p3_5, p3_6))
/-! ### haywain/haywainlaw02.knows: function 11 -/
def haywainlaw02_knows.f (K : Nat) : Option Bool := (code_Frame.f K ([] : List Int)).bind fun x1_0 => (appO 1 ([] : List Int) x1_0.1).bind fun y2_2 => (appO 1 (([] : List Int) ++ x1_0.1) ([7] : List Int)).bind fun y2_4 => (code_TakeFrame.f K ((([] : List Int) ++ x1_0.1) ++ ([7] : List Int))).bind fun x2_5 => (code_Num.f K (-5)).bind fun x3_0 => (code_TakeNum.f K x3_0).bind fun x3_1 => (code_Sum.f K ([49, 50, 51, 52, 53, 54, 55, 56, 57] : List Int)).bind fun x4_2 => cond (x4_2 == 3421780262) (cond ((strOfNums x1_0.1).toList == (⟨#[0, 0, 0, 0, 33, 68, 223, 28]⟩ : ByteArray).toList) (cond (x1_0.2 == 0) (cond ((x2_5.1.length : Int) == 0) (cond ((strOfNums x2_5.2.1).toList == (⟨#[7]⟩ : ByteArray).toList) (cond (x2_5.2.2 == 0) (cond (x3_1.1 == (-5)) (cond (x3_1.2.2 == 0) ((code_Text.f K (⟨#[97, 98]⟩ : ByteArray)).bind fun x4_36 => some (((strOfNums x4_36).toList == (⟨#[0, 0, 0, 0, 0, 0, 0, 2, 97, 98]⟩ : ByteArray).toList))) (some (false))) (some (false))) (some (false))) (some (false))) (some (false))) (some (false))) (some (false))) (some (false))
set_option maxRecDepth 100000 in
set_option maxHeartbeats 1000000 in
theorem haywainlaw02_knows.con (K : Nat) (r : Bool) (X : Nat → Nat → Prop) (w : World) (hS : St X w [] [] [] [] [] w) (H : haywainlaw02_knows.f K = some r) :
    Cn Try.prog 11 [] X w [] (fun i : Unit => .bool r) (fun i => []) (fun i => []) (fun i => []) := by
  refine Cn.of Try.func11 (by kernel_rfl) hS ?_
  unfold haywainlaw02_knows.f at H
  refine J.seq (by kernel_rfl) ?_
  refine J.region (by kernel_rfl) ?_
  refine O.pure 1 [] [] [] (fr' := []) (bx' := []) (by kernel_rfl) ?_
  refine O.nil (by kernel_rfl) ?_
  refine J.seq (by kernel_rfl) ?_
  obtain ⟨x1_0, hx1_0, H⟩ := bindE H
  refine J.region (by kernel_rfl) ?_
  refine O.e (some 10) (Ev.mono (fun w hS => hS.add (fun w' _ => Rd.nil (Kd.int .u8) w')) (Ev.call0 (xs := [.const (.slice none 0 0)]) [0] (by kernel_rfl) (by kernel_rfl) (fun w hS => code_Frame.con K ([] : List Int) (none, 0)  _ _ w hS hx1_0))) (by kernel_rfl) (fun p1_0 => ?_)
  refine O.pure 5 [] [1, 2] [] (fr' := [(1, .slice p1_0.1 x1_0.1.length p1_0.2), (2, .int .i64 x1_0.2)]) (bx' := []) (by kernel_rfl) ?_
  refine O.nil (by kernel_rfl) ?_
  refine J.seq (by kernel_rfl) ?_
  obtain ⟨y2_2, hy2_2, H⟩ := bindE H
  have hy2_2a := (appE hy2_2).1
  obtain ⟨y2_4, hy2_4, H⟩ := bindE H
  have hy2_4a := (appE hy2_4).1
  obtain ⟨x2_5, hx2_5, H⟩ := bindE H
  refine J.region (by kernel_rfl) ?_
  refine O.e (some 14) (Ev.lit (t := 22) (len := 0) (parts := #[]) (ps := []) (cs := []) (e := 5) (Kd.int .u8) ([] : List Int) (by kernel_rfl) (by kernel_rfl) (by kernel_rfl) (by kernel_rfl) (by kernel_rfl) (by decide) (fun w' hφ => (Els.nil _ _ _))) (by kernel_rfl) (fun p2_0 => ?_)
  refine O.pure 1 [] [1, 2, 14, 15] [] (fr' := [(1, .slice p1_0.1 x1_0.1.length p1_0.2), (2, .int .i64 x1_0.2), (14, .slice ((some ⟨p2_0, 0, none⟩, 0) : Hd).1 ([] : List Int).length ((some ⟨p2_0, 0, none⟩, 0) : Hd).2), (15, .slice p1_0.1 x1_0.1.length p1_0.2)]) (bx' := []) (by kernel_rfl) ?_
  refine O.e (some 16) (Ev.mono (fun w hS => hS.rowsel [1, 0] rfl (by decide)) (Ev.mono (fun w hS => hS.freezeH (h := p1_0) (xs := x1_0.1)) (Ev.appSl (d := (Kd.int .u8)) (ys := x1_0.1) (A := p1_0.1) (c := p1_0.2) (x := .tmp 14) (y := .tmp 15) (t := 22) (bytes := 1) 0 (by kernel_rfl) (by kernel_rfl) (by kernel_rfl) rfl (by kernel_rfl) (by decide) hy2_2a))) (by kernel_rfl) (fun p2_2 => ?_)
  refine O.e (some 17) (Ev.lit (t := 22) (len := 1) (parts := #[(0, .const (.int .u8 7))]) (ps := [(0, .int .u8 7)]) (cs := [.int .u8 7]) (e := 5) (Kd.int .u8) ([7] : List Int) (by kernel_rfl) (by kernel_rfl) (by kernel_rfl) (by kernel_rfl) (by kernel_rfl) (by decide) (fun w' hφ => (Els.cons (c := [.int .u8 7]) (rfl) (Els.nil _ _ _)))) (by kernel_rfl) (fun p2_3 => ?_)
  refine O.e (some 18) (Ev.appLit (x := .tmp 16) (y := .tmp 17) (t := 22) (bytes := 1) (by kernel_rfl) (by kernel_rfl) (by kernel_rfl) (by kernel_rfl) (by kernel_rfl) (by decide) hy2_4a) (by kernel_rfl) (fun p2_4 => ?_)
  refine O.e (some 19) (Ev.mono (fun w hS => hS.freezeH (h := p2_4) (xs := ((([] : List Int) ++ x1_0.1) ++ ([7] : List Int)))) (Ev.call0 (xs := [.tmp 18]) [0] (by kernel_rfl) (by kernel_rfl) (fun w hS => code_TakeFrame.con K ((([] : List Int) ++ x1_0.1) ++ ([7] : List Int)) p2_4  _ _ w hS hx2_5))) (by kernel_rfl) (fun p2_5 => ?_)
  refine O.pure 7 [] [1, 2, 3, 4, 5] [] (fr' := [(1, .slice p1_0.1 x1_0.1.length p1_0.2), (2, .int .i64 x1_0.2), (3, .slice p2_5.1.1 x2_5.1.length p2_5.1.2), (4, .slice p2_5.2.1 x2_5.2.1.length p2_5.2.2), (5, .int .i64 x2_5.2.2)]) (bx' := []) (by kernel_rfl) ?_
  refine O.nil (by kernel_rfl) ?_
  refine J.seq (by kernel_rfl) ?_
  obtain ⟨x3_0, hx3_0, H⟩ := bindE H
  obtain ⟨x3_1, hx3_1, H⟩ := bindE H
  refine J.region (by kernel_rfl) ?_
  refine O.e (some 24) (Ev.call0 (xs := [.const (.int .i64 (-5))]) [] (by kernel_rfl) (by kernel_rfl) (fun w hS => code_Num.con K (-5)  _ _ w hS hx3_0)) (by kernel_rfl) (fun p3_0 => ?_)
  refine O.e (some 25) (Ev.callL (hh := p3_0) (xs := x3_0) (m := x3_0.length) (xs1 := [.tmp 24]) [0] rfl (by kernel_rfl) (by kernel_rfl) (fun _ q hq _ _ _ h => by obtain rfl := List.mem_singleton.1 hq; exact h) (fun w hS => code_TakeNum.con K x3_0 p3_0  _ _ w hS hx3_1)) (by kernel_rfl) (fun p3_1 => ?_)
  refine O.pure 7 [] [1, 2, 3, 4, 5, 6, 8] [] (fr' := [(1, .slice p1_0.1 x1_0.1.length p1_0.2), (2, .int .i64 x1_0.2), (3, .slice p2_5.1.1 x2_5.1.length p2_5.1.2), (4, .slice p2_5.2.1 x2_5.2.1.length p2_5.2.2), (5, .int .i64 x2_5.2.2), (6, .int .i64 x3_1.1), (8, .int .i64 x3_1.2.2)]) (bx' := []) (by kernel_rfl) ?_
  refine O.nil (by kernel_rfl) ?_
  refine J.seq (by kernel_rfl) ?_
  obtain ⟨x4_2, hx4_2, H⟩ := bindE H
  rcases condE H with ⟨hc1, H⟩ | ⟨hc1, H⟩
  · rcases condE H with ⟨hc2, H⟩ | ⟨hc2, H⟩
    · rcases condE H with ⟨hc3, H⟩ | ⟨hc3, H⟩
      · rcases condE H with ⟨hc4, H⟩ | ⟨hc4, H⟩
        · rcases condE H with ⟨hc5, H⟩ | ⟨hc5, H⟩
          · rcases condE H with ⟨hc6, H⟩ | ⟨hc6, H⟩
            · rcases condE H with ⟨hc7, H⟩ | ⟨hc7, H⟩
              · rcases condE H with ⟨hc8, H⟩ | ⟨hc8, H⟩
                · obtain ⟨x4_36, hx4_36, H⟩ := bindE H
                  refine J.region (by kernel_rfl) ?_
                  refine O.e (some 29) (Ev.lit (t := 22) (len := 9) (parts := #[(0, .const (.int .u8 49)), (1, .const (.int .u8 50)), (2, .const (.int .u8 51)), (3, .const (.int .u8 52)), (4, .const (.int .u8 53)), (5, .const (.int .u8 54)), (6, .const (.int .u8 55)), (7, .const (.int .u8 56)), (8, .const (.int .u8 57))]) (ps := [(0, .int .u8 49), (1, .int .u8 50), (2, .int .u8 51), (3, .int .u8 52), (4, .int .u8 53), (5, .int .u8 54), (6, .int .u8 55), (7, .int .u8 56), (8, .int .u8 57)]) (cs := [.int .u8 49, .int .u8 50, .int .u8 51, .int .u8 52, .int .u8 53, .int .u8 54, .int .u8 55, .int .u8 56, .int .u8 57]) (e := 5) (Kd.int .u8) ([49, 50, 51, 52, 53, 54, 55, 56, 57] : List Int) (by kernel_rfl) (by kernel_rfl) (by kernel_rfl) (by kernel_rfl) (by kernel_rfl) (by decide) (fun w' hφ => (Els.cons (c := [.int .u8 49]) (rfl) (Els.cons (c := [.int .u8 50]) (rfl) (Els.cons (c := [.int .u8 51]) (rfl) (Els.cons (c := [.int .u8 52]) (rfl) (Els.cons (c := [.int .u8 53]) (rfl) (Els.cons (c := [.int .u8 54]) (rfl) (Els.cons (c := [.int .u8 55]) (rfl) (Els.cons (c := [.int .u8 56]) (rfl) (Els.cons (c := [.int .u8 57]) (rfl) (Els.nil _ _ _)))))))))))) (by kernel_rfl) (fun p4_0 => ?_)
                  refine O.e (some 30) (Ev.mark (t := 22) (e := 5) (x := .tmp 29) (g := p4_0) (m := 9) (c := 9) (xs := ([49, 50, 51, 52, 53, 54, 55, 56, 57] : List Int)) (by kernel_rfl) (by kernel_rfl) (by kernel_rfl) (by kernel_rfl) rfl) (by kernel_rfl) (fun _ => ?_)
                  refine O.e (some 31) (Ev.call0 (xs := [.tmp 30]) [0] (by kernel_rfl) (by kernel_rfl) (fun w hS => code_Sum.con K ([49, 50, 51, 52, 53, 54, 55, 56, 57] : List Int) ((some ⟨p4_0, 0, none⟩, 9) : Hd)  _ _ w hS hx4_2)) (by kernel_rfl) (fun _ => ?_)
                  refine O.q (v := .bool true) (some 32) (Qu.eqv (u := .bool (x4_2 == 3421780262)) (v := .bool true) (0, 0) [] (by kernel_rfl) (congrArg Value.bool hc1)) (by kernel_rfl) ?_
                  refine O.pure 2 [] [2, 3, 4, 5, 6, 8, 33, 34] [] (fr' := [(2, .int .i64 x1_0.2), (3, .slice p2_5.1.1 x2_5.1.length p2_5.1.2), (4, .slice p2_5.2.1 x2_5.2.1.length p2_5.2.2), (5, .int .i64 x2_5.2.2), (6, .int .i64 x3_1.1), (8, .int .i64 x3_1.2.2), (33, .bool true), (34, .slice p1_0.1 x1_0.1.length p1_0.2)]) (bx' := []) (by kernel_rfl) ?_
                  refine O.q (v := .string (strOfNums x1_0.1)) (some 35) (Qu.str (t := 22) (u := 9) (x := .tmp 34) (h := p1_0) (xs := x1_0.1) 3 (by kernel_rfl) (by kernel_rfl) (by kernel_rfl) (by kernel_rfl) rfl) (by kernel_rfl) ?_
                  refine O.q (v := .bool true) (some 36) (Qu.eqv (u := .bool ((strOfNums x1_0.1).toList == (⟨#[0, 0, 0, 0, 33, 68, 223, 28]⟩ : ByteArray).toList)) (v := .bool true) (0, 0) [] (by kernel_rfl) (congrArg Value.bool hc2)) (by kernel_rfl) ?_
                  refine O.pure 3 [] [3, 4, 5, 6, 8, 38, 39] [] (fr' := [(3, .slice p2_5.1.1 x2_5.1.length p2_5.1.2), (4, .slice p2_5.2.1 x2_5.2.1.length p2_5.2.2), (5, .int .i64 x2_5.2.2), (6, .int .i64 x3_1.1), (8, .int .i64 x3_1.2.2), (38, .bool true), (39, .int .i64 x1_0.2)]) (bx' := []) (by kernel_rfl) ?_
                  refine O.q (v := .bool true) (some 40) (Qu.eqv (u := .bool (x1_0.2 == 0)) (v := .bool true) (0, 0) [] (by kernel_rfl) (congrArg Value.bool hc3)) (by kernel_rfl) ?_
                  refine O.pure 4 [] [4, 5, 6, 8, 42, 44] [] (fr' := [(4, .slice p2_5.2.1 x2_5.2.1.length p2_5.2.2), (5, .int .i64 x2_5.2.2), (6, .int .i64 x3_1.1), (8, .int .i64 x3_1.2.2), (42, .bool true), (44, .int .i64 (x2_5.1.length : Int))]) (bx' := []) (by kernel_rfl) ?_
                  refine O.q (v := .bool true) (some 45) (Qu.eqv (u := .bool ((x2_5.1.length : Int) == 0)) (v := .bool true) (0, 0) [] (by kernel_rfl) (congrArg Value.bool hc4)) (by kernel_rfl) ?_
                  refine O.pure 3 [] [5, 6, 8, 47, 48] [] (fr' := [(5, .int .i64 x2_5.2.2), (6, .int .i64 x3_1.1), (8, .int .i64 x3_1.2.2), (47, .bool true), (48, .slice p2_5.2.1 x2_5.2.1.length p2_5.2.2)]) (bx' := []) (by kernel_rfl) ?_
                  refine O.mono (fun w hS => hS.rowsel [2, 0, 1] rfl (by decide)) ?_
                  refine O.mono (fun w hS => hS.freezeH (h := p2_5.2) (xs := x2_5.2.1)) ?_
                  refine O.q (v := .string (strOfNums x2_5.2.1)) (some 49) (Qu.str (t := 22) (u := 9) (x := .tmp 48) (h := p2_5.2) (xs := x2_5.2.1) 0 (by kernel_rfl) (by kernel_rfl) (by kernel_rfl) (by kernel_rfl) rfl) (by kernel_rfl) ?_
                  refine O.q (v := .bool true) (some 50) (Qu.eqv (u := .bool ((strOfNums x2_5.2.1).toList == (⟨#[7]⟩ : ByteArray).toList)) (v := .bool true) (0, 0) [] (by kernel_rfl) (congrArg Value.bool hc5)) (by kernel_rfl) ?_
                  refine O.pure 3 [] [6, 8, 52, 53] [] (fr' := [(6, .int .i64 x3_1.1), (8, .int .i64 x3_1.2.2), (52, .bool true), (53, .int .i64 x2_5.2.2)]) (bx' := []) (by kernel_rfl) ?_
                  refine O.q (v := .bool true) (some 54) (Qu.eqv (u := .bool (x2_5.2.2 == 0)) (v := .bool true) (0, 0) [] (by kernel_rfl) (congrArg Value.bool hc6)) (by kernel_rfl) ?_
                  refine O.pure 3 [] [8, 56, 57] [] (fr' := [(8, .int .i64 x3_1.2.2), (56, .bool true), (57, .int .i64 x3_1.1)]) (bx' := []) (by kernel_rfl) ?_
                  refine O.q (v := .bool true) (some 58) (Qu.eqv (u := .bool (x3_1.1 == (-5))) (v := .bool true) (0, 0) [] (by kernel_rfl) (congrArg Value.bool hc7)) (by kernel_rfl) ?_
                  refine O.pure 3 [] [60, 61] [] (fr' := [(60, .bool true), (61, .int .i64 x3_1.2.2)]) (bx' := []) (by kernel_rfl) ?_
                  refine O.q (v := .bool true) (some 62) (Qu.eqv (u := .bool (x3_1.2.2 == 0)) (v := .bool true) (0, 0) [] (by kernel_rfl) (congrArg Value.bool hc8)) (by kernel_rfl) ?_
                  refine O.pure 2 [] [64] [] (fr' := [(64, .bool true)]) (bx' := []) (by kernel_rfl) ?_
                  refine O.e (some 65) (Ev.call0 (xs := [.const (.string (⟨#[97, 98]⟩ : ByteArray))]) [] (by kernel_rfl) (by kernel_rfl) (fun w hS => code_Text.con K (⟨#[97, 98]⟩ : ByteArray)  _ _ w hS hx4_36)) (by kernel_rfl) (fun p4_36 => ?_)
                  refine O.mono (fun w hS => hS.freezeH (h := p4_36) (xs := x4_36)) ?_
                  refine O.q (v := .string (strOfNums x4_36)) (some 66) (Qu.str (t := 22) (u := 9) (x := .tmp 65) (h := p4_36) (xs := x4_36) 0 (by kernel_rfl) (by kernel_rfl) (by kernel_rfl) (by kernel_rfl) rfl) (by kernel_rfl) ?_
                  refine O.pure 3 [] [0] [] (fr' := [(0, .bool ((strOfNums x4_36).toList == (⟨#[0, 0, 0, 0, 0, 0, 0, 2, 97, 98]⟩ : ByteArray).toList))]) (bx' := []) (by kernel_rfl) ?_
                  refine O.nil (by kernel_rfl) ?_
                  obtain rfl := Option.some.inj H
                  exact J.doneS [] [] [] [] [] () (vs := [.bool ((strOfNums x4_36).toList == (⟨#[0, 0, 0, 0, 0, 0, 0, 2, 97, 98]⟩ : ByteArray).toList)]) (by kernel_rfl) (by kernel_rfl) (by kernel_rfl) (by kernel_rfl) (by kernel_rfl) (by decide)
                · refine J.region (by kernel_rfl) ?_
                  refine O.e (some 29) (Ev.lit (t := 22) (len := 9) (parts := #[(0, .const (.int .u8 49)), (1, .const (.int .u8 50)), (2, .const (.int .u8 51)), (3, .const (.int .u8 52)), (4, .const (.int .u8 53)), (5, .const (.int .u8 54)), (6, .const (.int .u8 55)), (7, .const (.int .u8 56)), (8, .const (.int .u8 57))]) (ps := [(0, .int .u8 49), (1, .int .u8 50), (2, .int .u8 51), (3, .int .u8 52), (4, .int .u8 53), (5, .int .u8 54), (6, .int .u8 55), (7, .int .u8 56), (8, .int .u8 57)]) (cs := [.int .u8 49, .int .u8 50, .int .u8 51, .int .u8 52, .int .u8 53, .int .u8 54, .int .u8 55, .int .u8 56, .int .u8 57]) (e := 5) (Kd.int .u8) ([49, 50, 51, 52, 53, 54, 55, 56, 57] : List Int) (by kernel_rfl) (by kernel_rfl) (by kernel_rfl) (by kernel_rfl) (by kernel_rfl) (by decide) (fun w' hφ => (Els.cons (c := [.int .u8 49]) (rfl) (Els.cons (c := [.int .u8 50]) (rfl) (Els.cons (c := [.int .u8 51]) (rfl) (Els.cons (c := [.int .u8 52]) (rfl) (Els.cons (c := [.int .u8 53]) (rfl) (Els.cons (c := [.int .u8 54]) (rfl) (Els.cons (c := [.int .u8 55]) (rfl) (Els.cons (c := [.int .u8 56]) (rfl) (Els.cons (c := [.int .u8 57]) (rfl) (Els.nil _ _ _)))))))))))) (by kernel_rfl) (fun p4_0 => ?_)
                  refine O.e (some 30) (Ev.mark (t := 22) (e := 5) (x := .tmp 29) (g := p4_0) (m := 9) (c := 9) (xs := ([49, 50, 51, 52, 53, 54, 55, 56, 57] : List Int)) (by kernel_rfl) (by kernel_rfl) (by kernel_rfl) (by kernel_rfl) rfl) (by kernel_rfl) (fun _ => ?_)
                  refine O.e (some 31) (Ev.call0 (xs := [.tmp 30]) [0] (by kernel_rfl) (by kernel_rfl) (fun w hS => code_Sum.con K ([49, 50, 51, 52, 53, 54, 55, 56, 57] : List Int) ((some ⟨p4_0, 0, none⟩, 9) : Hd)  _ _ w hS hx4_2)) (by kernel_rfl) (fun _ => ?_)
                  refine O.q (v := .bool true) (some 32) (Qu.eqv (u := .bool (x4_2 == 3421780262)) (v := .bool true) (0, 0) [] (by kernel_rfl) (congrArg Value.bool hc1)) (by kernel_rfl) ?_
                  refine O.pure 2 [] [2, 3, 4, 5, 6, 8, 33, 34] [] (fr' := [(2, .int .i64 x1_0.2), (3, .slice p2_5.1.1 x2_5.1.length p2_5.1.2), (4, .slice p2_5.2.1 x2_5.2.1.length p2_5.2.2), (5, .int .i64 x2_5.2.2), (6, .int .i64 x3_1.1), (8, .int .i64 x3_1.2.2), (33, .bool true), (34, .slice p1_0.1 x1_0.1.length p1_0.2)]) (bx' := []) (by kernel_rfl) ?_
                  refine O.q (v := .string (strOfNums x1_0.1)) (some 35) (Qu.str (t := 22) (u := 9) (x := .tmp 34) (h := p1_0) (xs := x1_0.1) 3 (by kernel_rfl) (by kernel_rfl) (by kernel_rfl) (by kernel_rfl) rfl) (by kernel_rfl) ?_
                  refine O.q (v := .bool true) (some 36) (Qu.eqv (u := .bool ((strOfNums x1_0.1).toList == (⟨#[0, 0, 0, 0, 33, 68, 223, 28]⟩ : ByteArray).toList)) (v := .bool true) (0, 0) [] (by kernel_rfl) (congrArg Value.bool hc2)) (by kernel_rfl) ?_
                  refine O.pure 3 [] [3, 4, 5, 6, 8, 38, 39] [] (fr' := [(3, .slice p2_5.1.1 x2_5.1.length p2_5.1.2), (4, .slice p2_5.2.1 x2_5.2.1.length p2_5.2.2), (5, .int .i64 x2_5.2.2), (6, .int .i64 x3_1.1), (8, .int .i64 x3_1.2.2), (38, .bool true), (39, .int .i64 x1_0.2)]) (bx' := []) (by kernel_rfl) ?_
                  refine O.q (v := .bool true) (some 40) (Qu.eqv (u := .bool (x1_0.2 == 0)) (v := .bool true) (0, 0) [] (by kernel_rfl) (congrArg Value.bool hc3)) (by kernel_rfl) ?_
                  refine O.pure 4 [] [4, 5, 6, 8, 42, 44] [] (fr' := [(4, .slice p2_5.2.1 x2_5.2.1.length p2_5.2.2), (5, .int .i64 x2_5.2.2), (6, .int .i64 x3_1.1), (8, .int .i64 x3_1.2.2), (42, .bool true), (44, .int .i64 (x2_5.1.length : Int))]) (bx' := []) (by kernel_rfl) ?_
                  refine O.q (v := .bool true) (some 45) (Qu.eqv (u := .bool ((x2_5.1.length : Int) == 0)) (v := .bool true) (0, 0) [] (by kernel_rfl) (congrArg Value.bool hc4)) (by kernel_rfl) ?_
                  refine O.pure 3 [] [5, 6, 8, 47, 48] [] (fr' := [(5, .int .i64 x2_5.2.2), (6, .int .i64 x3_1.1), (8, .int .i64 x3_1.2.2), (47, .bool true), (48, .slice p2_5.2.1 x2_5.2.1.length p2_5.2.2)]) (bx' := []) (by kernel_rfl) ?_
                  refine O.mono (fun w hS => hS.rowsel [2, 0, 1] rfl (by decide)) ?_
                  refine O.mono (fun w hS => hS.freezeH (h := p2_5.2) (xs := x2_5.2.1)) ?_
                  refine O.q (v := .string (strOfNums x2_5.2.1)) (some 49) (Qu.str (t := 22) (u := 9) (x := .tmp 48) (h := p2_5.2) (xs := x2_5.2.1) 0 (by kernel_rfl) (by kernel_rfl) (by kernel_rfl) (by kernel_rfl) rfl) (by kernel_rfl) ?_
                  refine O.q (v := .bool true) (some 50) (Qu.eqv (u := .bool ((strOfNums x2_5.2.1).toList == (⟨#[7]⟩ : ByteArray).toList)) (v := .bool true) (0, 0) [] (by kernel_rfl) (congrArg Value.bool hc5)) (by kernel_rfl) ?_
                  refine O.pure 3 [] [6, 8, 52, 53] [] (fr' := [(6, .int .i64 x3_1.1), (8, .int .i64 x3_1.2.2), (52, .bool true), (53, .int .i64 x2_5.2.2)]) (bx' := []) (by kernel_rfl) ?_
                  refine O.q (v := .bool true) (some 54) (Qu.eqv (u := .bool (x2_5.2.2 == 0)) (v := .bool true) (0, 0) [] (by kernel_rfl) (congrArg Value.bool hc6)) (by kernel_rfl) ?_
                  refine O.pure 3 [] [8, 56, 57] [] (fr' := [(8, .int .i64 x3_1.2.2), (56, .bool true), (57, .int .i64 x3_1.1)]) (bx' := []) (by kernel_rfl) ?_
                  refine O.q (v := .bool true) (some 58) (Qu.eqv (u := .bool (x3_1.1 == (-5))) (v := .bool true) (0, 0) [] (by kernel_rfl) (congrArg Value.bool hc7)) (by kernel_rfl) ?_
                  refine O.pure 3 [] [60, 61] [] (fr' := [(60, .bool true), (61, .int .i64 x3_1.2.2)]) (bx' := []) (by kernel_rfl) ?_
                  refine O.q (v := .bool false) (some 62) (Qu.eqv (u := .bool (x3_1.2.2 == 0)) (v := .bool false) (0, 0) [] (by kernel_rfl) (congrArg Value.bool hc8)) (by kernel_rfl) ?_
                  refine O.pure 7 [] [0] [] (fr' := [(0, .bool false)]) (bx' := []) (by kernel_rfl) ?_
                  refine O.nil (by kernel_rfl) ?_
                  obtain rfl := Option.some.inj H
                  exact J.doneS [] [] [] [] [] () (vs := [.bool false]) (by kernel_rfl) (by kernel_rfl) (by kernel_rfl) (by kernel_rfl) (by kernel_rfl) (by decide)
              · refine J.region (by kernel_rfl) ?_
                refine O.e (some 29) (Ev.lit (t := 22) (len := 9) (parts := #[(0, .const (.int .u8 49)), (1, .const (.int .u8 50)), (2, .const (.int .u8 51)), (3, .const (.int .u8 52)), (4, .const (.int .u8 53)), (5, .const (.int .u8 54)), (6, .const (.int .u8 55)), (7, .const (.int .u8 56)), (8, .const (.int .u8 57))]) (ps := [(0, .int .u8 49), (1, .int .u8 50), (2, .int .u8 51), (3, .int .u8 52), (4, .int .u8 53), (5, .int .u8 54), (6, .int .u8 55), (7, .int .u8 56), (8, .int .u8 57)]) (cs := [.int .u8 49, .int .u8 50, .int .u8 51, .int .u8 52, .int .u8 53, .int .u8 54, .int .u8 55, .int .u8 56, .int .u8 57]) (e := 5) (Kd.int .u8) ([49, 50, 51, 52, 53, 54, 55, 56, 57] : List Int) (by kernel_rfl) (by kernel_rfl) (by kernel_rfl) (by kernel_rfl) (by kernel_rfl) (by decide) (fun w' hφ => (Els.cons (c := [.int .u8 49]) (rfl) (Els.cons (c := [.int .u8 50]) (rfl) (Els.cons (c := [.int .u8 51]) (rfl) (Els.cons (c := [.int .u8 52]) (rfl) (Els.cons (c := [.int .u8 53]) (rfl) (Els.cons (c := [.int .u8 54]) (rfl) (Els.cons (c := [.int .u8 55]) (rfl) (Els.cons (c := [.int .u8 56]) (rfl) (Els.cons (c := [.int .u8 57]) (rfl) (Els.nil _ _ _)))))))))))) (by kernel_rfl) (fun p4_0 => ?_)
                refine O.e (some 30) (Ev.mark (t := 22) (e := 5) (x := .tmp 29) (g := p4_0) (m := 9) (c := 9) (xs := ([49, 50, 51, 52, 53, 54, 55, 56, 57] : List Int)) (by kernel_rfl) (by kernel_rfl) (by kernel_rfl) (by kernel_rfl) rfl) (by kernel_rfl) (fun _ => ?_)
                refine O.e (some 31) (Ev.call0 (xs := [.tmp 30]) [0] (by kernel_rfl) (by kernel_rfl) (fun w hS => code_Sum.con K ([49, 50, 51, 52, 53, 54, 55, 56, 57] : List Int) ((some ⟨p4_0, 0, none⟩, 9) : Hd)  _ _ w hS hx4_2)) (by kernel_rfl) (fun _ => ?_)
                refine O.q (v := .bool true) (some 32) (Qu.eqv (u := .bool (x4_2 == 3421780262)) (v := .bool true) (0, 0) [] (by kernel_rfl) (congrArg Value.bool hc1)) (by kernel_rfl) ?_
                refine O.pure 2 [] [2, 3, 4, 5, 6, 8, 33, 34] [] (fr' := [(2, .int .i64 x1_0.2), (3, .slice p2_5.1.1 x2_5.1.length p2_5.1.2), (4, .slice p2_5.2.1 x2_5.2.1.length p2_5.2.2), (5, .int .i64 x2_5.2.2), (6, .int .i64 x3_1.1), (8, .int .i64 x3_1.2.2), (33, .bool true), (34, .slice p1_0.1 x1_0.1.length p1_0.2)]) (bx' := []) (by kernel_rfl) ?_
                refine O.q (v := .string (strOfNums x1_0.1)) (some 35) (Qu.str (t := 22) (u := 9) (x := .tmp 34) (h := p1_0) (xs := x1_0.1) 3 (by kernel_rfl) (by kernel_rfl) (by kernel_rfl) (by kernel_rfl) rfl) (by kernel_rfl) ?_
                refine O.q (v := .bool true) (some 36) (Qu.eqv (u := .bool ((strOfNums x1_0.1).toList == (⟨#[0, 0, 0, 0, 33, 68, 223, 28]⟩ : ByteArray).toList)) (v := .bool true) (0, 0) [] (by kernel_rfl) (congrArg Value.bool hc2)) (by kernel_rfl) ?_
                refine O.pure 3 [] [3, 4, 5, 6, 8, 38, 39] [] (fr' := [(3, .slice p2_5.1.1 x2_5.1.length p2_5.1.2), (4, .slice p2_5.2.1 x2_5.2.1.length p2_5.2.2), (5, .int .i64 x2_5.2.2), (6, .int .i64 x3_1.1), (8, .int .i64 x3_1.2.2), (38, .bool true), (39, .int .i64 x1_0.2)]) (bx' := []) (by kernel_rfl) ?_
                refine O.q (v := .bool true) (some 40) (Qu.eqv (u := .bool (x1_0.2 == 0)) (v := .bool true) (0, 0) [] (by kernel_rfl) (congrArg Value.bool hc3)) (by kernel_rfl) ?_
                refine O.pure 4 [] [4, 5, 6, 8, 42, 44] [] (fr' := [(4, .slice p2_5.2.1 x2_5.2.1.length p2_5.2.2), (5, .int .i64 x2_5.2.2), (6, .int .i64 x3_1.1), (8, .int .i64 x3_1.2.2), (42, .bool true), (44, .int .i64 (x2_5.1.length : Int))]) (bx' := []) (by kernel_rfl) ?_
                refine O.q (v := .bool true) (some 45) (Qu.eqv (u := .bool ((x2_5.1.length : Int) == 0)) (v := .bool true) (0, 0) [] (by kernel_rfl) (congrArg Value.bool hc4)) (by kernel_rfl) ?_
                refine O.pure 3 [] [5, 6, 8, 47, 48] [] (fr' := [(5, .int .i64 x2_5.2.2), (6, .int .i64 x3_1.1), (8, .int .i64 x3_1.2.2), (47, .bool true), (48, .slice p2_5.2.1 x2_5.2.1.length p2_5.2.2)]) (bx' := []) (by kernel_rfl) ?_
                refine O.mono (fun w hS => hS.rowsel [2, 0, 1] rfl (by decide)) ?_
                refine O.mono (fun w hS => hS.freezeH (h := p2_5.2) (xs := x2_5.2.1)) ?_
                refine O.q (v := .string (strOfNums x2_5.2.1)) (some 49) (Qu.str (t := 22) (u := 9) (x := .tmp 48) (h := p2_5.2) (xs := x2_5.2.1) 0 (by kernel_rfl) (by kernel_rfl) (by kernel_rfl) (by kernel_rfl) rfl) (by kernel_rfl) ?_
                refine O.q (v := .bool true) (some 50) (Qu.eqv (u := .bool ((strOfNums x2_5.2.1).toList == (⟨#[7]⟩ : ByteArray).toList)) (v := .bool true) (0, 0) [] (by kernel_rfl) (congrArg Value.bool hc5)) (by kernel_rfl) ?_
                refine O.pure 3 [] [6, 8, 52, 53] [] (fr' := [(6, .int .i64 x3_1.1), (8, .int .i64 x3_1.2.2), (52, .bool true), (53, .int .i64 x2_5.2.2)]) (bx' := []) (by kernel_rfl) ?_
                refine O.q (v := .bool true) (some 54) (Qu.eqv (u := .bool (x2_5.2.2 == 0)) (v := .bool true) (0, 0) [] (by kernel_rfl) (congrArg Value.bool hc6)) (by kernel_rfl) ?_
                refine O.pure 3 [] [8, 56, 57] [] (fr' := [(8, .int .i64 x3_1.2.2), (56, .bool true), (57, .int .i64 x3_1.1)]) (bx' := []) (by kernel_rfl) ?_
                refine O.q (v := .bool false) (some 58) (Qu.eqv (u := .bool (x3_1.1 == (-5))) (v := .bool false) (0, 0) [] (by kernel_rfl) (congrArg Value.bool hc7)) (by kernel_rfl) ?_
                refine O.pure 11 [] [0] [] (fr' := [(0, .bool false)]) (bx' := []) (by kernel_rfl) ?_
                refine O.nil (by kernel_rfl) ?_
                obtain rfl := Option.some.inj H
                exact J.doneS [] [] [] [] [] () (vs := [.bool false]) (by kernel_rfl) (by kernel_rfl) (by kernel_rfl) (by kernel_rfl) (by kernel_rfl) (by decide)
            · refine J.region (by kernel_rfl) ?_
              refine O.e (some 29) (Ev.lit (t := 22) (len := 9) (parts := #[(0, .const (.int .u8 49)), (1, .const (.int .u8 50)), (2, .const (.int .u8 51)), (3, .const (.int .u8 52)), (4, .const (.int .u8 53)), (5, .const (.int .u8 54)), (6, .const (.int .u8 55)), (7, .const (.int .u8 56)), (8, .const (.int .u8 57))]) (ps := [(0, .int .u8 49), (1, .int .u8 50), (2, .int .u8 51), (3, .int .u8 52), (4, .int .u8 53), (5, .int .u8 54), (6, .int .u8 55), (7, .int .u8 56), (8, .int .u8 57)]) (cs := [.int .u8 49, .int .u8 50, .int .u8 51, .int .u8 52, .int .u8 53, .int .u8 54, .int .u8 55, .int .u8 56, .int .u8 57]) (e := 5) (Kd.int .u8) ([49, 50, 51, 52, 53, 54, 55, 56, 57] : List Int) (by kernel_rfl) (by kernel_rfl) (by kernel_rfl) (by kernel_rfl) (by kernel_rfl) (by decide) (fun w' hφ => (Els.cons (c := [.int .u8 49]) (rfl) (Els.cons (c := [.int .u8 50]) (rfl) (Els.cons (c := [.int .u8 51]) (rfl) (Els.cons (c := [.int .u8 52]) (rfl) (Els.cons (c := [.int .u8 53]) (rfl) (Els.cons (c := [.int .u8 54]) (rfl) (Els.cons (c := [.int .u8 55]) (rfl) (Els.cons (c := [.int .u8 56]) (rfl) (Els.cons (c := [.int .u8 57]) (rfl) (Els.nil _ _ _)))))))))))) (by kernel_rfl) (fun p4_0 => ?_)
              refine O.e (some 30) (Ev.mark (t := 22) (e := 5) (x := .tmp 29) (g := p4_0) (m := 9) (c := 9) (xs := ([49, 50, 51, 52, 53, 54, 55, 56, 57] : List Int)) (by kernel_rfl) (by kernel_rfl) (by kernel_rfl) (by kernel_rfl) rfl) (by kernel_rfl) (fun _ => ?_)
              refine O.e (some 31) (Ev.call0 (xs := [.tmp 30]) [0] (by kernel_rfl) (by kernel_rfl) (fun w hS => code_Sum.con K ([49, 50, 51, 52, 53, 54, 55, 56, 57] : List Int) ((some ⟨p4_0, 0, none⟩, 9) : Hd)  _ _ w hS hx4_2)) (by kernel_rfl) (fun _ => ?_)
              refine O.q (v := .bool true) (some 32) (Qu.eqv (u := .bool (x4_2 == 3421780262)) (v := .bool true) (0, 0) [] (by kernel_rfl) (congrArg Value.bool hc1)) (by kernel_rfl) ?_
              refine O.pure 2 [] [2, 3, 4, 5, 6, 8, 33, 34] [] (fr' := [(2, .int .i64 x1_0.2), (3, .slice p2_5.1.1 x2_5.1.length p2_5.1.2), (4, .slice p2_5.2.1 x2_5.2.1.length p2_5.2.2), (5, .int .i64 x2_5.2.2), (6, .int .i64 x3_1.1), (8, .int .i64 x3_1.2.2), (33, .bool true), (34, .slice p1_0.1 x1_0.1.length p1_0.2)]) (bx' := []) (by kernel_rfl) ?_
              refine O.q (v := .string (strOfNums x1_0.1)) (some 35) (Qu.str (t := 22) (u := 9) (x := .tmp 34) (h := p1_0) (xs := x1_0.1) 3 (by kernel_rfl) (by kernel_rfl) (by kernel_rfl) (by kernel_rfl) rfl) (by kernel_rfl) ?_
              refine O.q (v := .bool true) (some 36) (Qu.eqv (u := .bool ((strOfNums x1_0.1).toList == (⟨#[0, 0, 0, 0, 33, 68, 223, 28]⟩ : ByteArray).toList)) (v := .bool true) (0, 0) [] (by kernel_rfl) (congrArg Value.bool hc2)) (by kernel_rfl) ?_
              refine O.pure 3 [] [3, 4, 5, 6, 8, 38, 39] [] (fr' := [(3, .slice p2_5.1.1 x2_5.1.length p2_5.1.2), (4, .slice p2_5.2.1 x2_5.2.1.length p2_5.2.2), (5, .int .i64 x2_5.2.2), (6, .int .i64 x3_1.1), (8, .int .i64 x3_1.2.2), (38, .bool true), (39, .int .i64 x1_0.2)]) (bx' := []) (by kernel_rfl) ?_
              refine O.q (v := .bool true) (some 40) (Qu.eqv (u := .bool (x1_0.2 == 0)) (v := .bool true) (0, 0) [] (by kernel_rfl) (congrArg Value.bool hc3)) (by kernel_rfl) ?_
              refine O.pure 4 [] [4, 5, 6, 8, 42, 44] [] (fr' := [(4, .slice p2_5.2.1 x2_5.2.1.length p2_5.2.2), (5, .int .i64 x2_5.2.2), (6, .int .i64 x3_1.1), (8, .int .i64 x3_1.2.2), (42, .bool true), (44, .int .i64 (x2_5.1.length : Int))]) (bx' := []) (by kernel_rfl) ?_
              refine O.q (v := .bool true) (some 45) (Qu.eqv (u := .bool ((x2_5.1.length : Int) == 0)) (v := .bool true) (0, 0) [] (by kernel_rfl) (congrArg Value.bool hc4)) (by kernel_rfl) ?_
              refine O.pure 3 [] [5, 6, 8, 47, 48] [] (fr' := [(5, .int .i64 x2_5.2.2), (6, .int .i64 x3_1.1), (8, .int .i64 x3_1.2.2), (47, .bool true), (48, .slice p2_5.2.1 x2_5.2.1.length p2_5.2.2)]) (bx' := []) (by kernel_rfl) ?_
              refine O.mono (fun w hS => hS.rowsel [2, 0, 1] rfl (by decide)) ?_
              refine O.mono (fun w hS => hS.freezeH (h := p2_5.2) (xs := x2_5.2.1)) ?_
              refine O.q (v := .string (strOfNums x2_5.2.1)) (some 49) (Qu.str (t := 22) (u := 9) (x := .tmp 48) (h := p2_5.2) (xs := x2_5.2.1) 0 (by kernel_rfl) (by kernel_rfl) (by kernel_rfl) (by kernel_rfl) rfl) (by kernel_rfl) ?_
              refine O.q (v := .bool true) (some 50) (Qu.eqv (u := .bool ((strOfNums x2_5.2.1).toList == (⟨#[7]⟩ : ByteArray).toList)) (v := .bool true) (0, 0) [] (by kernel_rfl) (congrArg Value.bool hc5)) (by kernel_rfl) ?_
              refine O.pure 3 [] [6, 8, 52, 53] [] (fr' := [(6, .int .i64 x3_1.1), (8, .int .i64 x3_1.2.2), (52, .bool true), (53, .int .i64 x2_5.2.2)]) (bx' := []) (by kernel_rfl) ?_
              refine O.q (v := .bool false) (some 54) (Qu.eqv (u := .bool (x2_5.2.2 == 0)) (v := .bool false) (0, 0) [] (by kernel_rfl) (congrArg Value.bool hc6)) (by kernel_rfl) ?_
              refine O.pure 15 [] [0] [] (fr' := [(0, .bool false)]) (bx' := []) (by kernel_rfl) ?_
              refine O.nil (by kernel_rfl) ?_
              obtain rfl := Option.some.inj H
              exact J.doneS [] [] [] [] [] () (vs := [.bool false]) (by kernel_rfl) (by kernel_rfl) (by kernel_rfl) (by kernel_rfl) (by kernel_rfl) (by decide)
          · refine J.region (by kernel_rfl) ?_
            refine O.e (some 29) (Ev.lit (t := 22) (len := 9) (parts := #[(0, .const (.int .u8 49)), (1, .const (.int .u8 50)), (2, .const (.int .u8 51)), (3, .const (.int .u8 52)), (4, .const (.int .u8 53)), (5, .const (.int .u8 54)), (6, .const (.int .u8 55)), (7, .const (.int .u8 56)), (8, .const (.int .u8 57))]) (ps := [(0, .int .u8 49), (1, .int .u8 50), (2, .int .u8 51), (3, .int .u8 52), (4, .int .u8 53), (5, .int .u8 54), (6, .int .u8 55), (7, .int .u8 56), (8, .int .u8 57)]) (cs := [.int .u8 49, .int .u8 50, .int .u8 51, .int .u8 52, .int .u8 53, .int .u8 54, .int .u8 55, .int .u8 56, .int .u8 57]) (e := 5) (Kd.int .u8) ([49, 50, 51, 52, 53, 54, 55, 56, 57] : List Int) (by kernel_rfl) (by kernel_rfl) (by kernel_rfl) (by kernel_rfl) (by kernel_rfl) (by decide) (fun w' hφ => (Els.cons (c := [.int .u8 49]) (rfl) (Els.cons (c := [.int .u8 50]) (rfl) (Els.cons (c := [.int .u8 51]) (rfl) (Els.cons (c := [.int .u8 52]) (rfl) (Els.cons (c := [.int .u8 53]) (rfl) (Els.cons (c := [.int .u8 54]) (rfl) (Els.cons (c := [.int .u8 55]) (rfl) (Els.cons (c := [.int .u8 56]) (rfl) (Els.cons (c := [.int .u8 57]) (rfl) (Els.nil _ _ _)))))))))))) (by kernel_rfl) (fun p4_0 => ?_)
            refine O.e (some 30) (Ev.mark (t := 22) (e := 5) (x := .tmp 29) (g := p4_0) (m := 9) (c := 9) (xs := ([49, 50, 51, 52, 53, 54, 55, 56, 57] : List Int)) (by kernel_rfl) (by kernel_rfl) (by kernel_rfl) (by kernel_rfl) rfl) (by kernel_rfl) (fun _ => ?_)
            refine O.e (some 31) (Ev.call0 (xs := [.tmp 30]) [0] (by kernel_rfl) (by kernel_rfl) (fun w hS => code_Sum.con K ([49, 50, 51, 52, 53, 54, 55, 56, 57] : List Int) ((some ⟨p4_0, 0, none⟩, 9) : Hd)  _ _ w hS hx4_2)) (by kernel_rfl) (fun _ => ?_)
            refine O.q (v := .bool true) (some 32) (Qu.eqv (u := .bool (x4_2 == 3421780262)) (v := .bool true) (0, 0) [] (by kernel_rfl) (congrArg Value.bool hc1)) (by kernel_rfl) ?_
            refine O.pure 2 [] [2, 3, 4, 5, 6, 8, 33, 34] [] (fr' := [(2, .int .i64 x1_0.2), (3, .slice p2_5.1.1 x2_5.1.length p2_5.1.2), (4, .slice p2_5.2.1 x2_5.2.1.length p2_5.2.2), (5, .int .i64 x2_5.2.2), (6, .int .i64 x3_1.1), (8, .int .i64 x3_1.2.2), (33, .bool true), (34, .slice p1_0.1 x1_0.1.length p1_0.2)]) (bx' := []) (by kernel_rfl) ?_
            refine O.q (v := .string (strOfNums x1_0.1)) (some 35) (Qu.str (t := 22) (u := 9) (x := .tmp 34) (h := p1_0) (xs := x1_0.1) 3 (by kernel_rfl) (by kernel_rfl) (by kernel_rfl) (by kernel_rfl) rfl) (by kernel_rfl) ?_
            refine O.q (v := .bool true) (some 36) (Qu.eqv (u := .bool ((strOfNums x1_0.1).toList == (⟨#[0, 0, 0, 0, 33, 68, 223, 28]⟩ : ByteArray).toList)) (v := .bool true) (0, 0) [] (by kernel_rfl) (congrArg Value.bool hc2)) (by kernel_rfl) ?_
            refine O.pure 3 [] [3, 4, 5, 6, 8, 38, 39] [] (fr' := [(3, .slice p2_5.1.1 x2_5.1.length p2_5.1.2), (4, .slice p2_5.2.1 x2_5.2.1.length p2_5.2.2), (5, .int .i64 x2_5.2.2), (6, .int .i64 x3_1.1), (8, .int .i64 x3_1.2.2), (38, .bool true), (39, .int .i64 x1_0.2)]) (bx' := []) (by kernel_rfl) ?_
            refine O.q (v := .bool true) (some 40) (Qu.eqv (u := .bool (x1_0.2 == 0)) (v := .bool true) (0, 0) [] (by kernel_rfl) (congrArg Value.bool hc3)) (by kernel_rfl) ?_
            refine O.pure 4 [] [4, 5, 6, 8, 42, 44] [] (fr' := [(4, .slice p2_5.2.1 x2_5.2.1.length p2_5.2.2), (5, .int .i64 x2_5.2.2), (6, .int .i64 x3_1.1), (8, .int .i64 x3_1.2.2), (42, .bool true), (44, .int .i64 (x2_5.1.length : Int))]) (bx' := []) (by kernel_rfl) ?_
            refine O.q (v := .bool true) (some 45) (Qu.eqv (u := .bool ((x2_5.1.length : Int) == 0)) (v := .bool true) (0, 0) [] (by kernel_rfl) (congrArg Value.bool hc4)) (by kernel_rfl) ?_
            refine O.pure 3 [] [5, 6, 8, 47, 48] [] (fr' := [(5, .int .i64 x2_5.2.2), (6, .int .i64 x3_1.1), (8, .int .i64 x3_1.2.2), (47, .bool true), (48, .slice p2_5.2.1 x2_5.2.1.length p2_5.2.2)]) (bx' := []) (by kernel_rfl) ?_
            refine O.mono (fun w hS => hS.rowsel [2, 0, 1] rfl (by decide)) ?_
            refine O.mono (fun w hS => hS.freezeH (h := p2_5.2) (xs := x2_5.2.1)) ?_
            refine O.q (v := .string (strOfNums x2_5.2.1)) (some 49) (Qu.str (t := 22) (u := 9) (x := .tmp 48) (h := p2_5.2) (xs := x2_5.2.1) 0 (by kernel_rfl) (by kernel_rfl) (by kernel_rfl) (by kernel_rfl) rfl) (by kernel_rfl) ?_
            refine O.q (v := .bool false) (some 50) (Qu.eqv (u := .bool ((strOfNums x2_5.2.1).toList == (⟨#[7]⟩ : ByteArray).toList)) (v := .bool false) (0, 0) [] (by kernel_rfl) (congrArg Value.bool hc5)) (by kernel_rfl) ?_
            refine O.pure 19 [] [0] [] (fr' := [(0, .bool false)]) (bx' := []) (by kernel_rfl) ?_
            refine O.nil (by kernel_rfl) ?_
            obtain rfl := Option.some.inj H
            exact J.doneS [] [] [] [] [] () (vs := [.bool false]) (by kernel_rfl) (by kernel_rfl) (by kernel_rfl) (by kernel_rfl) (by kernel_rfl) (by decide)
        · refine J.region (by kernel_rfl) ?_
          refine O.e (some 29) (Ev.lit (t := 22) (len := 9) (parts := #[(0, .const (.int .u8 49)), (1, .const (.int .u8 50)), (2, .const (.int .u8 51)), (3, .const (.int .u8 52)), (4, .const (.int .u8 53)), (5, .const (.int .u8 54)), (6, .const (.int .u8 55)), (7, .const (.int .u8 56)), (8, .const (.int .u8 57))]) (ps := [(0, .int .u8 49), (1, .int .u8 50), (2, .int .u8 51), (3, .int .u8 52), (4, .int .u8 53), (5, .int .u8 54), (6, .int .u8 55), (7, .int .u8 56), (8, .int .u8 57)]) (cs := [.int .u8 49, .int .u8 50, .int .u8 51, .int .u8 52, .int .u8 53, .int .u8 54, .int .u8 55, .int .u8 56, .int .u8 57]) (e := 5) (Kd.int .u8) ([49, 50, 51, 52, 53, 54, 55, 56, 57] : List Int) (by kernel_rfl) (by kernel_rfl) (by kernel_rfl) (by kernel_rfl) (by kernel_rfl) (by decide) (fun w' hφ => (Els.cons (c := [.int .u8 49]) (rfl) (Els.cons (c := [.int .u8 50]) (rfl) (Els.cons (c := [.int .u8 51]) (rfl) (Els.cons (c := [.int .u8 52]) (rfl) (Els.cons (c := [.int .u8 53]) (rfl) (Els.cons (c := [.int .u8 54]) (rfl) (Els.cons (c := [.int .u8 55]) (rfl) (Els.cons (c := [.int .u8 56]) (rfl) (Els.cons (c := [.int .u8 57]) (rfl) (Els.nil _ _ _)))))))))))) (by kernel_rfl) (fun p4_0 => ?_)
          refine O.e (some 30) (Ev.mark (t := 22) (e := 5) (x := .tmp 29) (g := p4_0) (m := 9) (c := 9) (xs := ([49, 50, 51, 52, 53, 54, 55, 56, 57] : List Int)) (by kernel_rfl) (by kernel_rfl) (by kernel_rfl) (by kernel_rfl) rfl) (by kernel_rfl) (fun _ => ?_)
          refine O.e (some 31) (Ev.call0 (xs := [.tmp 30]) [0] (by kernel_rfl) (by kernel_rfl) (fun w hS => code_Sum.con K ([49, 50, 51, 52, 53, 54, 55, 56, 57] : List Int) ((some ⟨p4_0, 0, none⟩, 9) : Hd)  _ _ w hS hx4_2)) (by kernel_rfl) (fun _ => ?_)
          refine O.q (v := .bool true) (some 32) (Qu.eqv (u := .bool (x4_2 == 3421780262)) (v := .bool true) (0, 0) [] (by kernel_rfl) (congrArg Value.bool hc1)) (by kernel_rfl) ?_
          refine O.pure 2 [] [2, 3, 4, 5, 6, 8, 33, 34] [] (fr' := [(2, .int .i64 x1_0.2), (3, .slice p2_5.1.1 x2_5.1.length p2_5.1.2), (4, .slice p2_5.2.1 x2_5.2.1.length p2_5.2.2), (5, .int .i64 x2_5.2.2), (6, .int .i64 x3_1.1), (8, .int .i64 x3_1.2.2), (33, .bool true), (34, .slice p1_0.1 x1_0.1.length p1_0.2)]) (bx' := []) (by kernel_rfl) ?_
          refine O.q (v := .string (strOfNums x1_0.1)) (some 35) (Qu.str (t := 22) (u := 9) (x := .tmp 34) (h := p1_0) (xs := x1_0.1) 3 (by kernel_rfl) (by kernel_rfl) (by kernel_rfl) (by kernel_rfl) rfl) (by kernel_rfl) ?_
          refine O.q (v := .bool true) (some 36) (Qu.eqv (u := .bool ((strOfNums x1_0.1).toList == (⟨#[0, 0, 0, 0, 33, 68, 223, 28]⟩ : ByteArray).toList)) (v := .bool true) (0, 0) [] (by kernel_rfl) (congrArg Value.bool hc2)) (by kernel_rfl) ?_
          refine O.pure 3 [] [3, 4, 5, 6, 8, 38, 39] [] (fr' := [(3, .slice p2_5.1.1 x2_5.1.length p2_5.1.2), (4, .slice p2_5.2.1 x2_5.2.1.length p2_5.2.2), (5, .int .i64 x2_5.2.2), (6, .int .i64 x3_1.1), (8, .int .i64 x3_1.2.2), (38, .bool true), (39, .int .i64 x1_0.2)]) (bx' := []) (by kernel_rfl) ?_
          refine O.q (v := .bool true) (some 40) (Qu.eqv (u := .bool (x1_0.2 == 0)) (v := .bool true) (0, 0) [] (by kernel_rfl) (congrArg Value.bool hc3)) (by kernel_rfl) ?_
          refine O.pure 4 [] [4, 5, 6, 8, 42, 44] [] (fr' := [(4, .slice p2_5.2.1 x2_5.2.1.length p2_5.2.2), (5, .int .i64 x2_5.2.2), (6, .int .i64 x3_1.1), (8, .int .i64 x3_1.2.2), (42, .bool true), (44, .int .i64 (x2_5.1.length : Int))]) (bx' := []) (by kernel_rfl) ?_
          refine O.q (v := .bool false) (some 45) (Qu.eqv (u := .bool ((x2_5.1.length : Int) == 0)) (v := .bool false) (0, 0) [] (by kernel_rfl) (congrArg Value.bool hc4)) (by kernel_rfl) ?_
          refine O.pure 24 [] [0] [] (fr' := [(0, .bool false)]) (bx' := []) (by kernel_rfl) ?_
          refine O.nil (by kernel_rfl) ?_
          obtain rfl := Option.some.inj H
          exact J.doneS [] [] [] [] [] () (vs := [.bool false]) (by kernel_rfl) (by kernel_rfl) (by kernel_rfl) (by kernel_rfl) (by kernel_rfl) (by decide)
      · refine J.region (by kernel_rfl) ?_
        refine O.e (some 29) (Ev.lit (t := 22) (len := 9) (parts := #[(0, .const (.int .u8 49)), (1, .const (.int .u8 50)), (2, .const (.int .u8 51)), (3, .const (.int .u8 52)), (4, .const (.int .u8 53)), (5, .const (.int .u8 54)), (6, .const (.int .u8 55)), (7, .const (.int .u8 56)), (8, .const (.int .u8 57))]) (ps := [(0, .int .u8 49), (1, .int .u8 50), (2, .int .u8 51), (3, .int .u8 52), (4, .int .u8 53), (5, .int .u8 54), (6, .int .u8 55), (7, .int .u8 56), (8, .int .u8 57)]) (cs := [.int .u8 49, .int .u8 50, .int .u8 51, .int .u8 52, .int .u8 53, .int .u8 54, .int .u8 55, .int .u8 56, .int .u8 57]) (e := 5) (Kd.int .u8) ([49, 50, 51, 52, 53, 54, 55, 56, 57] : List Int) (by kernel_rfl) (by kernel_rfl) (by kernel_rfl) (by kernel_rfl) (by kernel_rfl) (by decide) (fun w' hφ => (Els.cons (c := [.int .u8 49]) (rfl) (Els.cons (c := [.int .u8 50]) (rfl) (Els.cons (c := [.int .u8 51]) (rfl) (Els.cons (c := [.int .u8 52]) (rfl) (Els.cons (c := [.int .u8 53]) (rfl) (Els.cons (c := [.int .u8 54]) (rfl) (Els.cons (c := [.int .u8 55]) (rfl) (Els.cons (c := [.int .u8 56]) (rfl) (Els.cons (c := [.int .u8 57]) (rfl) (Els.nil _ _ _)))))))))))) (by kernel_rfl) (fun p4_0 => ?_)
        refine O.e (some 30) (Ev.mark (t := 22) (e := 5) (x := .tmp 29) (g := p4_0) (m := 9) (c := 9) (xs := ([49, 50, 51, 52, 53, 54, 55, 56, 57] : List Int)) (by kernel_rfl) (by kernel_rfl) (by kernel_rfl) (by kernel_rfl) rfl) (by kernel_rfl) (fun _ => ?_)
        refine O.e (some 31) (Ev.call0 (xs := [.tmp 30]) [0] (by kernel_rfl) (by kernel_rfl) (fun w hS => code_Sum.con K ([49, 50, 51, 52, 53, 54, 55, 56, 57] : List Int) ((some ⟨p4_0, 0, none⟩, 9) : Hd)  _ _ w hS hx4_2)) (by kernel_rfl) (fun _ => ?_)
        refine O.q (v := .bool true) (some 32) (Qu.eqv (u := .bool (x4_2 == 3421780262)) (v := .bool true) (0, 0) [] (by kernel_rfl) (congrArg Value.bool hc1)) (by kernel_rfl) ?_
        refine O.pure 2 [] [2, 3, 4, 5, 6, 8, 33, 34] [] (fr' := [(2, .int .i64 x1_0.2), (3, .slice p2_5.1.1 x2_5.1.length p2_5.1.2), (4, .slice p2_5.2.1 x2_5.2.1.length p2_5.2.2), (5, .int .i64 x2_5.2.2), (6, .int .i64 x3_1.1), (8, .int .i64 x3_1.2.2), (33, .bool true), (34, .slice p1_0.1 x1_0.1.length p1_0.2)]) (bx' := []) (by kernel_rfl) ?_
        refine O.q (v := .string (strOfNums x1_0.1)) (some 35) (Qu.str (t := 22) (u := 9) (x := .tmp 34) (h := p1_0) (xs := x1_0.1) 3 (by kernel_rfl) (by kernel_rfl) (by kernel_rfl) (by kernel_rfl) rfl) (by kernel_rfl) ?_
        refine O.q (v := .bool true) (some 36) (Qu.eqv (u := .bool ((strOfNums x1_0.1).toList == (⟨#[0, 0, 0, 0, 33, 68, 223, 28]⟩ : ByteArray).toList)) (v := .bool true) (0, 0) [] (by kernel_rfl) (congrArg Value.bool hc2)) (by kernel_rfl) ?_
        refine O.pure 3 [] [3, 4, 5, 6, 8, 38, 39] [] (fr' := [(3, .slice p2_5.1.1 x2_5.1.length p2_5.1.2), (4, .slice p2_5.2.1 x2_5.2.1.length p2_5.2.2), (5, .int .i64 x2_5.2.2), (6, .int .i64 x3_1.1), (8, .int .i64 x3_1.2.2), (38, .bool true), (39, .int .i64 x1_0.2)]) (bx' := []) (by kernel_rfl) ?_
        refine O.q (v := .bool false) (some 40) (Qu.eqv (u := .bool (x1_0.2 == 0)) (v := .bool false) (0, 0) [] (by kernel_rfl) (congrArg Value.bool hc3)) (by kernel_rfl) ?_
        refine O.pure 29 [] [0] [] (fr' := [(0, .bool false)]) (bx' := []) (by kernel_rfl) ?_
        refine O.nil (by kernel_rfl) ?_
        obtain rfl := Option.some.inj H
        exact J.doneS [] [] [] [] [] () (vs := [.bool false]) (by kernel_rfl) (by kernel_rfl) (by kernel_rfl) (by kernel_rfl) (by kernel_rfl) (by decide)
    · refine J.region (by kernel_rfl) ?_
      refine O.e (some 29) (Ev.lit (t := 22) (len := 9) (parts := #[(0, .const (.int .u8 49)), (1, .const (.int .u8 50)), (2, .const (.int .u8 51)), (3, .const (.int .u8 52)), (4, .const (.int .u8 53)), (5, .const (.int .u8 54)), (6, .const (.int .u8 55)), (7, .const (.int .u8 56)), (8, .const (.int .u8 57))]) (ps := [(0, .int .u8 49), (1, .int .u8 50), (2, .int .u8 51), (3, .int .u8 52), (4, .int .u8 53), (5, .int .u8 54), (6, .int .u8 55), (7, .int .u8 56), (8, .int .u8 57)]) (cs := [.int .u8 49, .int .u8 50, .int .u8 51, .int .u8 52, .int .u8 53, .int .u8 54, .int .u8 55, .int .u8 56, .int .u8 57]) (e := 5) (Kd.int .u8) ([49, 50, 51, 52, 53, 54, 55, 56, 57] : List Int) (by kernel_rfl) (by kernel_rfl) (by kernel_rfl) (by kernel_rfl) (by kernel_rfl) (by decide) (fun w' hφ => (Els.cons (c := [.int .u8 49]) (rfl) (Els.cons (c := [.int .u8 50]) (rfl) (Els.cons (c := [.int .u8 51]) (rfl) (Els.cons (c := [.int .u8 52]) (rfl) (Els.cons (c := [.int .u8 53]) (rfl) (Els.cons (c := [.int .u8 54]) (rfl) (Els.cons (c := [.int .u8 55]) (rfl) (Els.cons (c := [.int .u8 56]) (rfl) (Els.cons (c := [.int .u8 57]) (rfl) (Els.nil _ _ _)))))))))))) (by kernel_rfl) (fun p4_0 => ?_)
      refine O.e (some 30) (Ev.mark (t := 22) (e := 5) (x := .tmp 29) (g := p4_0) (m := 9) (c := 9) (xs := ([49, 50, 51, 52, 53, 54, 55, 56, 57] : List Int)) (by kernel_rfl) (by kernel_rfl) (by kernel_rfl) (by kernel_rfl) rfl) (by kernel_rfl) (fun _ => ?_)
      refine O.e (some 31) (Ev.call0 (xs := [.tmp 30]) [0] (by kernel_rfl) (by kernel_rfl) (fun w hS => code_Sum.con K ([49, 50, 51, 52, 53, 54, 55, 56, 57] : List Int) ((some ⟨p4_0, 0, none⟩, 9) : Hd)  _ _ w hS hx4_2)) (by kernel_rfl) (fun _ => ?_)
      refine O.q (v := .bool true) (some 32) (Qu.eqv (u := .bool (x4_2 == 3421780262)) (v := .bool true) (0, 0) [] (by kernel_rfl) (congrArg Value.bool hc1)) (by kernel_rfl) ?_
      refine O.pure 2 [] [2, 3, 4, 5, 6, 8, 33, 34] [] (fr' := [(2, .int .i64 x1_0.2), (3, .slice p2_5.1.1 x2_5.1.length p2_5.1.2), (4, .slice p2_5.2.1 x2_5.2.1.length p2_5.2.2), (5, .int .i64 x2_5.2.2), (6, .int .i64 x3_1.1), (8, .int .i64 x3_1.2.2), (33, .bool true), (34, .slice p1_0.1 x1_0.1.length p1_0.2)]) (bx' := []) (by kernel_rfl) ?_
      refine O.q (v := .string (strOfNums x1_0.1)) (some 35) (Qu.str (t := 22) (u := 9) (x := .tmp 34) (h := p1_0) (xs := x1_0.1) 3 (by kernel_rfl) (by kernel_rfl) (by kernel_rfl) (by kernel_rfl) rfl) (by kernel_rfl) ?_
      refine O.q (v := .bool false) (some 36) (Qu.eqv (u := .bool ((strOfNums x1_0.1).toList == (⟨#[0, 0, 0, 0, 33, 68, 223, 28]⟩ : ByteArray).toList)) (v := .bool false) (0, 0) [] (by kernel_rfl) (congrArg Value.bool hc2)) (by kernel_rfl) ?_
      refine O.pure 33 [] [0] [] (fr' := [(0, .bool false)]) (bx' := []) (by kernel_rfl) ?_
      refine O.nil (by kernel_rfl) ?_
      obtain rfl := Option.some.inj H
      exact J.doneS [] [] [] [] [] () (vs := [.bool false]) (by kernel_rfl) (by kernel_rfl) (by kernel_rfl) (by kernel_rfl) (by kernel_rfl) (by decide)
  · refine J.region (by kernel_rfl) ?_
    refine O.e (some 29) (Ev.lit (t := 22) (len := 9) (parts := #[(0, .const (.int .u8 49)), (1, .const (.int .u8 50)), (2, .const (.int .u8 51)), (3, .const (.int .u8 52)), (4, .const (.int .u8 53)), (5, .const (.int .u8 54)), (6, .const (.int .u8 55)), (7, .const (.int .u8 56)), (8, .const (.int .u8 57))]) (ps := [(0, .int .u8 49), (1, .int .u8 50), (2, .int .u8 51), (3, .int .u8 52), (4, .int .u8 53), (5, .int .u8 54), (6, .int .u8 55), (7, .int .u8 56), (8, .int .u8 57)]) (cs := [.int .u8 49, .int .u8 50, .int .u8 51, .int .u8 52, .int .u8 53, .int .u8 54, .int .u8 55, .int .u8 56, .int .u8 57]) (e := 5) (Kd.int .u8) ([49, 50, 51, 52, 53, 54, 55, 56, 57] : List Int) (by kernel_rfl) (by kernel_rfl) (by kernel_rfl) (by kernel_rfl) (by kernel_rfl) (by decide) (fun w' hφ => (Els.cons (c := [.int .u8 49]) (rfl) (Els.cons (c := [.int .u8 50]) (rfl) (Els.cons (c := [.int .u8 51]) (rfl) (Els.cons (c := [.int .u8 52]) (rfl) (Els.cons (c := [.int .u8 53]) (rfl) (Els.cons (c := [.int .u8 54]) (rfl) (Els.cons (c := [.int .u8 55]) (rfl) (Els.cons (c := [.int .u8 56]) (rfl) (Els.cons (c := [.int .u8 57]) (rfl) (Els.nil _ _ _)))))))))))) (by kernel_rfl) (fun p4_0 => ?_)
    refine O.e (some 30) (Ev.mark (t := 22) (e := 5) (x := .tmp 29) (g := p4_0) (m := 9) (c := 9) (xs := ([49, 50, 51, 52, 53, 54, 55, 56, 57] : List Int)) (by kernel_rfl) (by kernel_rfl) (by kernel_rfl) (by kernel_rfl) rfl) (by kernel_rfl) (fun _ => ?_)
    refine O.e (some 31) (Ev.call0 (xs := [.tmp 30]) [0] (by kernel_rfl) (by kernel_rfl) (fun w hS => code_Sum.con K ([49, 50, 51, 52, 53, 54, 55, 56, 57] : List Int) ((some ⟨p4_0, 0, none⟩, 9) : Hd)  _ _ w hS hx4_2)) (by kernel_rfl) (fun _ => ?_)
    refine O.q (v := .bool false) (some 32) (Qu.eqv (u := .bool (x4_2 == 3421780262)) (v := .bool false) (0, 0) [] (by kernel_rfl) (congrArg Value.bool hc1)) (by kernel_rfl) ?_
    refine O.pure 37 [] [0] [] (fr' := [(0, .bool false)]) (bx' := []) (by kernel_rfl) ?_
    refine O.nil (by kernel_rfl) ?_
    obtain rfl := Option.some.inj H
    exact J.doneS [] [] [] [] [] () (vs := [.bool false]) (by kernel_rfl) (by kernel_rfl) (by kernel_rfl) (by kernel_rfl) (by kernel_rfl) (by decide)
/-! ### haywain/haywainref02.Sum: function 13 -/
def haywainref02_Sum.l80 (K : Nat) : Nat → (Int × Int) → Option Int
  | 0, _ => none
  | k + 1, s80 => cond (decide (s80.2 < 8)) ((remO s80.1 2).bind fun z9_1 => cond ((s80.1.tmod 2) == 1) ((divO .u32 s80.1 2).bind fun z10_1 => haywainref02_Sum.l80 K k ((xorI .u32 (IntKind.wrap .u32 (s80.1.tdiv 2)) 3988292384), (IntKind.wrap .i64 (s80.2 + 1)))) ((divO .u32 s80.1 2).bind fun z11_1 => haywainref02_Sum.l80 K k ((IntKind.wrap .u32 (s80.1.tdiv 2)), (IntKind.wrap .i64 (s80.2 + 1))))) (some (s80.1))
def haywainref02_Sum.l1 (K : Nat) (a0 : List Int) : Nat → (Int × Int) → Option Int
  | 0, _ => none
  | k + 1, s1 => cond (decide (s1.2 < (a0.length : Int))) (((idxO a0 s1.2).bind fun x5_3 => (haywainref02_Sum.l80 K K ((xorI .u32 s1.1 (IntKind.wrap .u32 x5_3)), 0) : Option Int).bind fun o73 : Int => some (o73) : Option Int).bind fun o59 : Int => haywainref02_Sum.l1 K a0 k (o59, (IntKind.wrap .i64 (s1.2 + 1)))) (some ((xorI .u32 s1.1 4294967295)))
def haywainref02_Sum.f (K : Nat) (a0 : List Int) : Option Int := haywainref02_Sum.l1 K a0 K (4294967295, 0)
set_option maxRecDepth 100000 in
set_option maxHeartbeats 1000000 in
theorem haywainref02_Sum.con (K : Nat) (a0 : List Int) (h0 : Hd) (r : Int) (X : Nat → Nat → Prop) (w : World) (hS : St X w [] [] [] [] [Rd (Kd.int .u8) h0.1 h0.2 a0] w) (H : haywainref02_Sum.f K a0 = some r) :
    Cn Try.prog 13 [.slice h0.1 a0.length h0.2] X w [] (fun i : Unit => .int .u32 r) (fun i => []) (fun i => []) (fun i => []) := by
  refine Cn.of Try.func13 (by kernel_rfl) hS ?_
  unfold haywainref02_Sum.f at H
  refine J.seq (by kernel_rfl) ?_
  refine J.region (by kernel_rfl) ?_
  refine O.pure 1 [] [0] [] (fr' := [(0, .slice h0.1 a0.length h0.2)]) (bx' := []) (by kernel_rfl) ?_
  refine O.nil (by kernel_rfl) ?_
  refine J.seq (by kernel_rfl) ?_
  refine J.region (by kernel_rfl) ?_
  refine O.pure 1 [] [0, 3] [] (fr' := [(0, .slice h0.1 a0.length h0.2), (3, .int .u32 4294967295)]) (bx' := []) (by kernel_rfl) ?_
  refine O.nil (by kernel_rfl) ?_
  refine J.seq (by kernel_rfl) ?_
  refine J.seq (by kernel_rfl) ?_
  refine J.region (by kernel_rfl) ?_
  refine O.pure 1 [] [0, 3, 4] [] (fr' := [(0, .slice h0.1 a0.length h0.2), (3, .int .u32 4294967295), (4, .int .i64 0)]) (bx' := []) (by kernel_rfl) ?_
  refine O.nil (by kernel_rfl) ?_
  refine J.block (id := 0) (by kernel_rfl) ?_
  refine J.loopI (σ := Int × Int) (γ := Unit) (f := fun m_ s_ => haywainref02_Sum.l1 K a0 m_ s_) (fun s1 g1 => [(0, .slice h0.1 a0.length h0.2), (3, .int .u32 s1.1), (4, .int .i64 s1.2)]) (fun s1 g1 => St X w [] [] [] [] [Rd (Kd.int .u8) h0.1 h0.2 a0]) K (4294967295, 0) () (by kernel_rfl) H (fun _ => rfl) (fun m_ s1 H ih1 g1 => ?_) (fun h_ => ?_)
  · unfold haywainref02_Sum.l1 at H
    refine J.seq (by kernel_rfl) ?_
    refine J.seq (by kernel_rfl) ?_
    refine J.region (by kernel_rfl) ?_
    refine O.pure 4 [] [0, 3, 4, 9] [] (fr' := [(0, .slice h0.1 a0.length h0.2), (3, .int .u32 s1.1), (4, .int .i64 s1.2), (9, .bool (decide (s1.2 < (a0.length : Int))))]) (bx' := []) (by kernel_rfl) ?_
    refine O.nil (by kernel_rfl) ?_
    rcases condE H with ⟨hc58, H⟩ | ⟨hc58, H⟩
    · refine J.condT (x := .tmp 9) (t := (decide (s1.2 < (a0.length : Int)))) (by kernel_rfl) (by kernel_rfl) hc58 ?_
      refine J.skip (by kernel_rfl) ?_
      refine J.seq (by kernel_rfl) ?_
      refine J.join (α := Int) (γ := Unit) (fun o59 q59 => [(0, .slice h0.1 a0.length h0.2), (3, .int .u32 o59), (4, .int .i64 s1.2)]) (fun o59 q59 => St X w [] [] [] [] [Rd (Kd.int .u8) h0.1 h0.2 a0]) H (fun o59 q59 H => ?_) (fun o59 H hj59 => ?_)
      · refine J.region (by kernel_rfl) ?_
        refine O.pure 3 [] [0, 3, 4] [] (fr' := [(0, .slice h0.1 a0.length h0.2), (3, .int .u32 o59), (4, .int .i64 (IntKind.wrap .i64 (s1.2 + 1)))]) (bx' := []) (by kernel_rfl) ?_
        refine O.nil (by kernel_rfl) ?_
        exact J.conv2 [0, 3, 4] [0] [] [] (by kernel_rfl) (by kernel_rfl) (by kernel_rfl) (by kernel_rfl) (by decide) (ih1 (o59, (IntKind.wrap .i64 (s1.2 + 1))) () H)
      · refine J.block (id := 1) (by kernel_rfl) ?_
        refine J.seq (by kernel_rfl) ?_
        obtain ⟨x5_3, hx5_3, H⟩ := bindE H
        obtain ⟨hx5_3a, hx5_3⟩ := idxE hx5_3
        refine J.region (by kernel_rfl) ?_
        refine O.pure 3 [] [0, 3, 4, 12, 13, 14] [] (fr' := [(0, .slice h0.1 a0.length h0.2), (3, .int .u32 s1.1), (4, .int .i64 s1.2), (12, .int .u32 s1.1), (13, .slice h0.1 a0.length h0.2), (14, .int .i64 s1.2)]) (bx' := []) (by kernel_rfl) ?_
        refine O.open (d := (Kd.int .u8)) (h := h0) (i := s1.2) 0 rfl hx5_3 (Lay.int _ _) (fun p5_3 hp5_3A => ?_)
        refine O.q (v := .pointer (some ⟨p5_3.1, p5_3.2.1 + s1.2.toNat * 1, none⟩)) (some 15) (Qu.idx (t := 22) (x := .tmp 13) (y := .tmp 14) (c := h0.2) (kk := .i64) (sz := 1) (by kernel_rfl) (by kernel_rfl) (by kernel_rfl) (by kernel_rfl) hx5_3a (idx_lt hx5_3) hp5_3A) (by kernel_rfl) ?_
        refine O.pure 4 [(0, 0)] [0, 3, 4] [p5_3.1, p5_3.2.1 + s1.2.toNat * 1] (fr' := [(0, .slice h0.1 a0.length h0.2), (3, .int .u32 (xorI .u32 s1.1 (IntKind.wrap .u32 x5_3))), (4, .int .i64 s1.2)]) (bx' := []) (by kernel_rfl) ?_
        refine O.nil (by kernel_rfl) ?_
        refine J.seq (by kernel_rfl) ?_
        refine J.region (by kernel_rfl) ?_
        refine O.pure 1 [] [0, 3, 4, 5] [] (fr' := [(0, .slice h0.1 a0.length h0.2), (3, .int .u32 (xorI .u32 s1.1 (IntKind.wrap .u32 x5_3))), (4, .int .i64 s1.2), (5, .int .i64 0)]) (bx' := []) (by kernel_rfl) ?_
        refine O.nil (by kernel_rfl) ?_
        refine J.join (α := Int) (γ := Unit) (fun o73 q73 => [(0, .slice h0.1 a0.length h0.2), (3, .int .u32 o73), (4, .int .i64 s1.2)]) (fun o73 q73 => St X w [] [] [] [] [Rd (Kd.int .u8) h0.1 h0.2 a0]) H (fun o73 q73 H => ?_) (fun o73 H hj73 => ?_)
        · refine J.out ?_
          obtain rfl := Option.some.inj H
          exact J.conv2 [0, 3, 4] [0] [] [] (by kernel_rfl) (by kernel_rfl) (by kernel_rfl) (by kernel_rfl) (by decide) (hj59 ())
        · refine J.block (id := 2) (by kernel_rfl) ?_
          refine J.loopI (σ := Int × Int) (γ := Unit) (f := fun m_ s_ => haywainref02_Sum.l80 K m_ s_) (fun s80 g80 => [(0, .slice h0.1 a0.length h0.2), (3, .int .u32 s80.1), (4, .int .i64 s1.2), (5, .int .i64 s80.2)]) (fun s80 g80 => St X w [] [] [] [] [Rd (Kd.int .u8) h0.1 h0.2 a0]) K ((xorI .u32 s1.1 (IntKind.wrap .u32 x5_3)), 0) () (by kernel_rfl) H (fun _ => rfl) (fun m_ s80 H ih80 g80 => ?_) (fun h_ => ?_)
          · unfold haywainref02_Sum.l80 at H
            refine J.seq (by kernel_rfl) ?_
            refine J.seq (by kernel_rfl) ?_
            refine J.region (by kernel_rfl) ?_
            refine O.pure 2 [] [0, 3, 4, 5, 20] [] (fr' := [(0, .slice h0.1 a0.length h0.2), (3, .int .u32 s80.1), (4, .int .i64 s1.2), (5, .int .i64 s80.2), (20, .bool (decide (s80.2 < 8)))]) (bx' := []) (by kernel_rfl) ?_
            refine O.nil (by kernel_rfl) ?_
            rcases condE H with ⟨hc84, H⟩ | ⟨hc84, H⟩
            · refine J.condT (x := .tmp 20) (t := (decide (s80.2 < 8))) (by kernel_rfl) (by kernel_rfl) hc84 ?_
              refine J.skip (by kernel_rfl) ?_
              refine J.seq (by kernel_rfl) ?_
              refine J.block (id := 3) (by kernel_rfl) ?_
              refine J.seq (by kernel_rfl) ?_
              obtain ⟨z9_1, hz9_1, H⟩ := bindE H
              have hz9_1a := (remE hz9_1).1
              refine J.region (by kernel_rfl) ?_
              refine O.pure 1 [] [0, 3, 4, 5, 23] [] (fr' := [(0, .slice h0.1 a0.length h0.2), (3, .int .u32 s80.1), (4, .int .i64 s1.2), (5, .int .i64 s80.2), (23, .int .u32 s80.1)]) (bx' := []) (by kernel_rfl) ?_
              refine O.q (v := .int .u32 (s80.1.tmod 2)) (some 24) (Qu.rem (t := 25) (t' := 25) (x := .tmp 23) (y := .const (.int .u32 2)) (a := s80.1) (b := 2) (by kernel_rfl) (by kernel_rfl) (by kernel_rfl) hz9_1a) (by kernel_rfl) ?_
              refine O.pure 1 [] [0, 3, 4, 5, 25] [] (fr' := [(0, .slice h0.1 a0.length h0.2), (3, .int .u32 s80.1), (4, .int .i64 s1.2), (5, .int .i64 s80.2), (25, .bool ((s80.1.tmod 2) == 1))]) (bx' := []) (by kernel_rfl) ?_
              refine O.nil (by kernel_rfl) ?_
              rcases condE H with ⟨hc85, H⟩ | ⟨hc85, H⟩
              · refine J.condT (x := .tmp 25) (t := ((s80.1.tmod 2) == 1)) (by kernel_rfl) (by kernel_rfl) hc85 ?_
                obtain ⟨z10_1, hz10_1, H⟩ := bindE H
                have hz10_1a := (divE hz10_1).1
                refine J.region (by kernel_rfl) ?_
                refine O.pure 1 [] [0, 3, 4, 5, 26] [] (fr' := [(0, .slice h0.1 a0.length h0.2), (3, .int .u32 s80.1), (4, .int .i64 s1.2), (5, .int .i64 s80.2), (26, .int .u32 s80.1)]) (bx' := []) (by kernel_rfl) ?_
                refine O.q (v := .int .u32 (IntKind.wrap .u32 (s80.1.tdiv 2))) (some 27) (Qu.div (t := 25) (t' := 25) (x := .tmp 26) (y := .const (.int .u32 2)) (a := s80.1) (b := 2) (by kernel_rfl) (by kernel_rfl) (by kernel_rfl) hz10_1a) (by kernel_rfl) ?_
                refine O.pure 2 [] [0, 3, 4, 5] [] (fr' := [(0, .slice h0.1 a0.length h0.2), (3, .int .u32 (xorI .u32 (IntKind.wrap .u32 (s80.1.tdiv 2)) 3988292384)), (4, .int .i64 s1.2), (5, .int .i64 s80.2)]) (bx' := []) (by kernel_rfl) ?_
                refine O.nil (by kernel_rfl) ?_
                refine J.out ?_
                refine J.region (by kernel_rfl) ?_
                refine O.pure 3 [] [0, 3, 4, 5] [] (fr' := [(0, .slice h0.1 a0.length h0.2), (3, .int .u32 (xorI .u32 (IntKind.wrap .u32 (s80.1.tdiv 2)) 3988292384)), (4, .int .i64 s1.2), (5, .int .i64 (IntKind.wrap .i64 (s80.2 + 1)))]) (bx' := []) (by kernel_rfl) ?_
                refine O.nil (by kernel_rfl) ?_
                exact J.conv2 [0, 3, 4, 5] [0] [] [] (by kernel_rfl) (by kernel_rfl) (by kernel_rfl) (by kernel_rfl) (by decide) (ih80 ((xorI .u32 (IntKind.wrap .u32 (s80.1.tdiv 2)) 3988292384), (IntKind.wrap .i64 (s80.2 + 1))) () H)
              · refine J.condF (x := .tmp 25) (t := ((s80.1.tmod 2) == 1)) (by kernel_rfl) (by kernel_rfl) hc85 ?_
                obtain ⟨z11_1, hz11_1, H⟩ := bindE H
                have hz11_1a := (divE hz11_1).1
                refine J.region (by kernel_rfl) ?_
                refine O.pure 1 [] [0, 3, 4, 5, 29] [] (fr' := [(0, .slice h0.1 a0.length h0.2), (3, .int .u32 s80.1), (4, .int .i64 s1.2), (5, .int .i64 s80.2), (29, .int .u32 s80.1)]) (bx' := []) (by kernel_rfl) ?_
                refine O.q (v := .int .u32 (IntKind.wrap .u32 (s80.1.tdiv 2))) (some 30) (Qu.div (t := 25) (t' := 25) (x := .tmp 29) (y := .const (.int .u32 2)) (a := s80.1) (b := 2) (by kernel_rfl) (by kernel_rfl) (by kernel_rfl) hz11_1a) (by kernel_rfl) ?_
                refine O.pure 1 [] [0, 3, 4, 5] [] (fr' := [(0, .slice h0.1 a0.length h0.2), (3, .int .u32 (IntKind.wrap .u32 (s80.1.tdiv 2))), (4, .int .i64 s1.2), (5, .int .i64 s80.2)]) (bx' := []) (by kernel_rfl) ?_
                refine O.nil (by kernel_rfl) ?_
                refine J.out ?_
                refine J.region (by kernel_rfl) ?_
                refine O.pure 3 [] [0, 3, 4, 5] [] (fr' := [(0, .slice h0.1 a0.length h0.2), (3, .int .u32 (IntKind.wrap .u32 (s80.1.tdiv 2))), (4, .int .i64 s1.2), (5, .int .i64 (IntKind.wrap .i64 (s80.2 + 1)))]) (bx' := []) (by kernel_rfl) ?_
                refine O.nil (by kernel_rfl) ?_
                exact J.conv2 [0, 3, 4, 5] [0] [] [] (by kernel_rfl) (by kernel_rfl) (by kernel_rfl) (by kernel_rfl) (by decide) (ih80 ((IntKind.wrap .u32 (s80.1.tdiv 2)), (IntKind.wrap .i64 (s80.2 + 1))) () H)
            · refine J.condF (x := .tmp 20) (t := (decide (s80.2 < 8))) (by kernel_rfl) (by kernel_rfl) hc84 ?_
              refine J.exit (id := 2) (by kernel_rfl) rfl ?_
              obtain rfl := Option.some.inj H
              exact J.conv2 [0, 3, 4] [0] [] [] (by kernel_rfl) (by kernel_rfl) (by kernel_rfl) (by kernel_rfl) (by decide) (hj73 ())
          · exact J.conv2 [0, 3, 4, 5] [0] [] [] (by kernel_rfl) (by kernel_rfl) (by kernel_rfl) (by kernel_rfl) (by decide) h_
    · refine J.condF (x := .tmp 9) (t := (decide (s1.2 < (a0.length : Int)))) (by kernel_rfl) (by kernel_rfl) hc58 ?_
      refine J.exit (id := 0) (by kernel_rfl) rfl ?_
      refine J.seq (by kernel_rfl) ?_
      refine J.region (by kernel_rfl) ?_
      refine O.pure 3 [] [2] [] (fr' := [(2, .int .u32 (xorI .u32 s1.1 4294967295))]) (bx' := []) (by kernel_rfl) ?_
      refine O.nil (by kernel_rfl) ?_
      obtain rfl := Option.some.inj H
      exact J.doneS [] [] [] [] [] () (vs := [.int .u32 (xorI .u32 s1.1 4294967295)]) (by kernel_rfl) (by kernel_rfl) (by kernel_rfl) (by kernel_rfl) (by kernel_rfl) (by decide)
  · exact J.conv2 [0, 3, 4] [0] [] [] (by kernel_rfl) (by kernel_rfl) (by kernel_rfl) (by kernel_rfl) (by decide) h_
/-! ### haywain/haywainref02.Digits: function 27 -/
def haywainref02_Digits.r (K : Nat) : Nat → Int → Int → Option (List Int)
  | 0, _, _ => none
  | k + 1, a0, a1 => cond (a1 == 0) (some (([] : List Int))) ((divO .u64 a0 256).bind fun z3_1 => (haywainref02_Digits.r K k (IntKind.wrap .u64 (a0.tdiv 256)) (IntKind.wrap .i64 (a1 - 1))).bind fun x3_4 => (remO a0 256).bind fun z3_6 => (appO 1 x3_4 ([(IntKind.wrap .u8 (a0.tmod 256))] : List Int)).bind fun y3_9 => some ((x3_4 ++ ([(IntKind.wrap .u8 (a0.tmod 256))] : List Int))))
def haywainref02_Digits.f (K : Nat) (a0 : Int) (a1 : Int) : Option (List Int) := haywainref02_Digits.r K K a0 a1
set_option maxRecDepth 100000 in
set_option maxHeartbeats 1000000 in
theorem haywainref02_Digits.con_r (K : Nat) : ∀ (k : Nat) (a0 : Int) (a1 : Int) (r : (List Int)) (X : Nat → Nat → Prop) (w : World) (hS : St X w [] [] [] [] [] w) (H : haywainref02_Digits.r K k a0 a1 = some r), Cn Try.prog 27 [.int .u64 a0, .int .i64 a1] X w [] (fun i : Hd => .slice i.1 r.length i.2) (fun i => []) (fun i => [mkRow (Kd.int .u8) 5 (.slice i.1 r.length i.2) r]) (fun i => []) := by
  intro k
  induction k with
  | zero => intro a0 a1 r X w hS H; simp [haywainref02_Digits.r] at H
  | succ k ih =>
    intro a0 a1 r X w hS H
    refine Cn.of Try.func27 (by kernel_rfl) hS ?_
    unfold haywainref02_Digits.r at H
    refine J.seq (by kernel_rfl) ?_
    refine J.region (by kernel_rfl) ?_
    refine O.pure 1 [] [0, 1] [] (fr' := [(0, .int .u64 a0), (1, .int .i64 a1)]) (bx' := []) (by kernel_rfl) ?_
    refine O.nil (by kernel_rfl) ?_
    refine J.seq (by kernel_rfl) ?_
    refine J.seq (by kernel_rfl) ?_
    refine J.region (by kernel_rfl) ?_
    refine O.pure 2 [] [0, 1, 6] [] (fr' := [(0, .int .u64 a0), (1, .int .i64 a1), (6, .bool (a1 == 0))]) (bx' := []) (by kernel_rfl) ?_
    refine O.nil (by kernel_rfl) ?_
    rcases condE H with ⟨hc1, H⟩ | ⟨hc1, H⟩
    · refine J.condT (x := .tmp 6) (t := (a1 == 0)) (by kernel_rfl) (by kernel_rfl) hc1 ?_
      refine J.seq (by kernel_rfl) ?_
      refine J.region (by kernel_rfl) ?_
      refine O.pure 1 [] [4] [] (fr' := [(4, .slice none 0 0)]) (bx' := []) (by kernel_rfl) ?_
      refine O.nil (by kernel_rfl) ?_
      obtain rfl := Option.some.inj H
      refine J.nilrow (Kd.int .u8) 5 ?_
      exact J.doneS [] [] [] [] [0] (none, 0) (vs := [.slice none 0 0]) (by kernel_rfl) (by kernel_rfl) (by kernel_rfl) (by kernel_rfl) (by kernel_rfl) (by decide)
    · refine J.condF (x := .tmp 6) (t := (a1 == 0)) (by kernel_rfl) (by kernel_rfl) hc1 ?_
      refine J.skip (by kernel_rfl) ?_
      refine J.seq (by kernel_rfl) ?_
      obtain ⟨z3_1, hz3_1, H⟩ := bindE H
      have hz3_1a := (divE hz3_1).1
      obtain ⟨x3_4, hx3_4, H⟩ := bindE H
      obtain ⟨z3_6, hz3_6, H⟩ := bindE H
      have hz3_6a := (remE hz3_6).1
      obtain ⟨y3_9, hy3_9, H⟩ := bindE H
      have hy3_9a := (appE hy3_9).1
      refine J.region (by kernel_rfl) ?_
      refine O.pure 1 [] [0, 1, 7] [] (fr' := [(0, .int .u64 a0), (1, .int .i64 a1), (7, .int .u64 a0)]) (bx' := []) (by kernel_rfl) ?_
      refine O.q (v := .int .u64 (IntKind.wrap .u64 (a0.tdiv 256))) (some 8) (Qu.div (t := 53) (t' := 53) (x := .tmp 7) (y := .const (.int .u64 256)) (a := a0) (b := 256) (by kernel_rfl) (by kernel_rfl) (by kernel_rfl) hz3_1a) (by kernel_rfl) ?_
      refine O.pure 2 [] [0, 8, 10] [] (fr' := [(0, .int .u64 a0), (8, .int .u64 (IntKind.wrap .u64 (a0.tdiv 256))), (10, .int .i64 (IntKind.wrap .i64 (a1 - 1)))]) (bx' := []) (by kernel_rfl) ?_
      refine O.e (some 11) (Ev.call0 (xs := [.tmp 8, .tmp 10]) [] (by kernel_rfl) (by kernel_rfl) (fun w hS => ih (IntKind.wrap .u64 (a0.tdiv 256)) (IntKind.wrap .i64 (a1 - 1))  _ _ w hS hx3_4)) (by kernel_rfl) (fun p3_4 => ?_)
      refine O.pure 1 [] [11, 12] [] (fr' := [(11, .slice p3_4.1 x3_4.length p3_4.2), (12, .int .u64 a0)]) (bx' := []) (by kernel_rfl) ?_
      refine O.q (v := .int .u64 (a0.tmod 256)) (some 13) (Qu.rem (t := 53) (t' := 53) (x := .tmp 12) (y := .const (.int .u64 256)) (a := a0) (b := 256) (by kernel_rfl) (by kernel_rfl) (by kernel_rfl) hz3_6a) (by kernel_rfl) ?_
      refine O.pure 1 [] [11, 14] [] (fr' := [(11, .slice p3_4.1 x3_4.length p3_4.2), (14, .int .u8 (IntKind.wrap .u8 (a0.tmod 256)))]) (bx' := []) (by kernel_rfl) ?_
      refine O.e (some 15) (Ev.lit (t := 22) (len := 1) (parts := #[(0, .tmp 14)]) (ps := [(0, .int .u8 (IntKind.wrap .u8 (a0.tmod 256)))]) (cs := [.int .u8 (IntKind.wrap .u8 (a0.tmod 256))]) (e := 5) (Kd.int .u8) ([(IntKind.wrap .u8 (a0.tmod 256))] : List Int) (by kernel_rfl) (by kernel_rfl) (by kernel_rfl) (by kernel_rfl) (by kernel_rfl) (by decide) (fun w' hφ => (Els.cons (c := [.int .u8 (IntKind.wrap .u8 (a0.tmod 256))]) (rfl) (Els.nil _ _ _)))) (by kernel_rfl) (fun p3_8 => ?_)
      refine O.e (some 16) (Ev.appLit (x := .tmp 11) (y := .tmp 15) (t := 22) (bytes := 1) (by kernel_rfl) (by kernel_rfl) (by kernel_rfl) (by kernel_rfl) (by kernel_rfl) (by decide) hy3_9a) (by kernel_rfl) (fun p3_9 => ?_)
      refine O.pure 1 [] [4] [] (fr' := [(4, .slice p3_9.1 (x3_4 ++ ([(IntKind.wrap .u8 (a0.tmod 256))] : List Int)).length p3_9.2)]) (bx' := []) (by kernel_rfl) ?_
      refine O.nil (by kernel_rfl) ?_
      obtain rfl := Option.some.inj H
      exact J.doneS [] [] [] [] [0] p3_9 (vs := [.slice p3_9.1 (x3_4 ++ ([(IntKind.wrap .u8 (a0.tmod 256))] : List Int)).length p3_9.2]) (by kernel_rfl) (by kernel_rfl) (by kernel_rfl) (by kernel_rfl) (by kernel_rfl) (by decide)
theorem haywainref02_Digits.con (K : Nat) (a0 : Int) (a1 : Int) (r : (List Int)) (X : Nat → Nat → Prop) (w : World) (hS : St X w [] [] [] [] [] w) (H : haywainref02_Digits.f K a0 a1 = some r) : Cn Try.prog 27 [.int .u64 a0, .int .i64 a1] X w [] (fun i : Hd => .slice i.1 r.length i.2) (fun i => []) (fun i => [mkRow (Kd.int .u8) 5 (.slice i.1 r.length i.2) r]) (fun i => []) := haywainref02_Digits.con_r K K a0 a1 r X w hS H
/-! ### haywain/haywainref02.Num: function 15 -/
def haywainref02_Num.f (K : Nat) (a0 : Int) : Option (List Int) := (haywainref02_Digits.f K (IntKind.wrap .u64 a0) 8).bind fun x1_2 => some (x1_2)
set_option maxRecDepth 100000 in
set_option maxHeartbeats 1000000 in
theorem haywainref02_Num.con (K : Nat) (a0 : Int) (r : (List Int)) (X : Nat → Nat → Prop) (w : World) (hS : St X w [] [] [] [] [] w) (H : haywainref02_Num.f K a0 = some r) :
    Cn Try.prog 15 [.int .i64 a0] X w [] (fun i : Hd => .slice i.1 r.length i.2) (fun i => []) (fun i => [mkRow (Kd.int .u8) 5 (.slice i.1 r.length i.2) r]) (fun i => []) := by
  refine Cn.of Try.func15 (by kernel_rfl) hS ?_
  unfold haywainref02_Num.f at H
  refine J.seq (by kernel_rfl) ?_
  refine J.region (by kernel_rfl) ?_
  refine O.pure 1 [] [0] [] (fr' := [(0, .int .i64 a0)]) (bx' := []) (by kernel_rfl) ?_
  refine O.nil (by kernel_rfl) ?_
  refine J.seq (by kernel_rfl) ?_
  obtain ⟨x1_2, hx1_2, H⟩ := bindE H
  refine J.region (by kernel_rfl) ?_
  refine O.pure 2 [] [4] [] (fr' := [(4, .int .u64 (IntKind.wrap .u64 a0))]) (bx' := []) (by kernel_rfl) ?_
  refine O.e (some 5) (Ev.call0 (xs := [.tmp 4, .const (.int .i64 8)]) [] (by kernel_rfl) (by kernel_rfl) (fun w hS => haywainref02_Digits.con K (IntKind.wrap .u64 a0) 8  _ _ w hS hx1_2)) (by kernel_rfl) (fun p1_2 => ?_)
  refine O.pure 1 [] [2] [] (fr' := [(2, .slice p1_2.1 x1_2.length p1_2.2)]) (bx' := []) (by kernel_rfl) ?_
  refine O.nil (by kernel_rfl) ?_
  obtain rfl := Option.some.inj H
  exact J.doneS [] [] [] [] [0] p1_2 (vs := [.slice p1_2.1 x1_2.length p1_2.2]) (by kernel_rfl) (by kernel_rfl) (by kernel_rfl) (by kernel_rfl) (by kernel_rfl) (by decide)
/-! ### haywain/haywainref02.Text: function 17 -/
def haywainref02_Text.l1 (K : Nat) (a0 : ByteArray) : Nat → ((List Int) × Int) → Option (List Int)
  | 0, _ => none
  | k + 1, s1 => cond (decide (s1.2 < (a0.size : Int))) ((sidxO a0 s1.2).bind fun x5_3 => (appO 1 s1.1 ([x5_3] : List Int)).bind fun y5_5 => haywainref02_Text.l1 K a0 k ((s1.1 ++ ([x5_3] : List Int)), (IntKind.wrap .i64 (s1.2 + 1)))) (some (s1.1))
def haywainref02_Text.f (K : Nat) (a0 : ByteArray) : Option (List Int) := (haywainref02_Num.f K (a0.size : Int)).bind fun x1_2 => haywainref02_Text.l1 K a0 K (x1_2, 0)
set_option maxRecDepth 100000 in
set_option maxHeartbeats 1000000 in
theorem haywainref02_Text.con (K : Nat) (a0 : ByteArray) (r : (List Int)) (X : Nat → Nat → Prop) (w : World) (hS : St X w [] [] [] [] [] w) (H : haywainref02_Text.f K a0 = some r) :
    Cn Try.prog 17 [.string a0] X w [] (fun i : Hd => .slice i.1 r.length i.2) (fun i => []) (fun i => [mkRow (Kd.int .u8) 5 (.slice i.1 r.length i.2) r]) (fun i => []) := by
  refine Cn.of Try.func17 (by kernel_rfl) hS ?_
  unfold haywainref02_Text.f at H
  refine J.seq (by kernel_rfl) ?_
  refine J.region (by kernel_rfl) ?_
  refine O.pure 1 [] [0] [] (fr' := [(0, .string a0)]) (bx' := []) (by kernel_rfl) ?_
  refine O.nil (by kernel_rfl) ?_
  refine J.seq (by kernel_rfl) ?_
  obtain ⟨x1_2, hx1_2, H⟩ := bindE H
  refine J.region (by kernel_rfl) ?_
  refine O.pure 2 [] [0, 6] [] (fr' := [(0, .string a0), (6, .int .i64 (a0.size : Int))]) (bx' := []) (by kernel_rfl) ?_
  refine O.e (some 7) (Ev.call0 (xs := [.tmp 6]) [] (by kernel_rfl) (by kernel_rfl) (fun w hS => haywainref02_Num.con K (a0.size : Int)  _ _ w hS hx1_2)) (by kernel_rfl) (fun p1_2 => ?_)
  refine O.pure 1 [] [0, 3] [] (fr' := [(0, .string a0), (3, .slice p1_2.1 x1_2.length p1_2.2)]) (bx' := []) (by kernel_rfl) ?_
  refine O.nil (by kernel_rfl) ?_
  refine J.seq (by kernel_rfl) ?_
  refine J.seq (by kernel_rfl) ?_
  refine J.region (by kernel_rfl) ?_
  refine O.pure 1 [] [0, 3, 4] [] (fr' := [(0, .string a0), (3, .slice p1_2.1 x1_2.length p1_2.2), (4, .int .i64 0)]) (bx' := []) (by kernel_rfl) ?_
  refine O.nil (by kernel_rfl) ?_
  refine J.block (id := 0) (by kernel_rfl) ?_
  refine J.loopI (σ := (List Int) × Int) (γ := Hd) (f := fun m_ s_ => haywainref02_Text.l1 K a0 m_ s_) (fun s1 g1 => [(0, .string a0), (3, .slice g1.1 s1.1.length g1.2), (4, .int .i64 s1.2)]) (fun s1 g1 => St X w [] [] [mkRow (Kd.int .u8) 5 (.slice g1.1 s1.1.length g1.2) s1.1] [] []) K (x1_2, 0) p1_2 (by kernel_rfl) H (fun _ => rfl) (fun m_ s1 H ih1 g1 => ?_) (fun h_ => ?_)
  · unfold haywainref02_Text.l1 at H
    refine J.seq (by kernel_rfl) ?_
    refine J.seq (by kernel_rfl) ?_
    refine J.region (by kernel_rfl) ?_
    refine O.pure 4 [] [0, 3, 4, 11] [] (fr' := [(0, .string a0), (3, .slice g1.1 s1.1.length g1.2), (4, .int .i64 s1.2), (11, .bool (decide (s1.2 < (a0.size : Int))))]) (bx' := []) (by kernel_rfl) ?_
    refine O.nil (by kernel_rfl) ?_
    rcases condE H with ⟨hc4, H⟩ | ⟨hc4, H⟩
    · refine J.condT (x := .tmp 11) (t := (decide (s1.2 < (a0.size : Int)))) (by kernel_rfl) (by kernel_rfl) hc4 ?_
      refine J.skip (by kernel_rfl) ?_
      refine J.seq (by kernel_rfl) ?_
      refine J.block (id := 1) (by kernel_rfl) ?_
      obtain ⟨x5_3, hx5_3, H⟩ := bindE H
      obtain ⟨y5_5, hy5_5, H⟩ := bindE H
      have hy5_5a := (appE hy5_5).1
      refine J.region (by kernel_rfl) ?_
      refine O.pure 3 [] [0, 3, 4, 14, 15, 16] [] (fr' := [(0, .string a0), (3, .slice g1.1 s1.1.length g1.2), (4, .int .i64 s1.2), (14, .slice g1.1 s1.1.length g1.2), (15, .string a0), (16, .int .i64 s1.2)]) (bx' := []) (by kernel_rfl) ?_
      refine O.q (v := .int .u8 x5_3) (some 17) (Qu.strIdx (t := 9) (x := .tmp 15) (y := .tmp 16) (s := a0) (kk := .i64) (i := s1.2) (by kernel_rfl) (by kernel_rfl) (by kernel_rfl) (by kernel_rfl) hx5_3) (by kernel_rfl) ?_
      refine O.e (some 18) (Ev.lit (t := 22) (len := 1) (parts := #[(0, .tmp 17)]) (ps := [(0, .int .u8 x5_3)]) (cs := [.int .u8 x5_3]) (e := 5) (Kd.int .u8) ([x5_3] : List Int) (by kernel_rfl) (by kernel_rfl) (by kernel_rfl) (by kernel_rfl) (by kernel_rfl) (by decide) (fun w' hφ => (Els.cons (c := [.int .u8 x5_3]) (rfl) (Els.nil _ _ _)))) (by kernel_rfl) (fun p5_4 => ?_)
      refine O.e (some 19) (Ev.appLit (x := .tmp 14) (y := .tmp 18) (t := 22) (bytes := 1) (by kernel_rfl) (by kernel_rfl) (by kernel_rfl) (by kernel_rfl) (by kernel_rfl) (by decide) hy5_5a) (by kernel_rfl) (fun p5_5 => ?_)
      refine O.pure 1 [] [0, 3, 4] [] (fr' := [(0, .string a0), (3, .slice p5_5.1 (s1.1 ++ ([x5_3] : List Int)).length p5_5.2), (4, .int .i64 s1.2)]) (bx' := []) (by kernel_rfl) ?_
      refine O.nil (by kernel_rfl) ?_
      refine J.out ?_
      refine J.region (by kernel_rfl) ?_
      refine O.pure 3 [] [0, 3, 4] [] (fr' := [(0, .string a0), (3, .slice p5_5.1 (s1.1 ++ ([x5_3] : List Int)).length p5_5.2), (4, .int .i64 (IntKind.wrap .i64 (s1.2 + 1)))]) (bx' := []) (by kernel_rfl) ?_
      refine O.nil (by kernel_rfl) ?_
      exact J.conv2 [0, 3, 4] [] [] [0] (by kernel_rfl) (by kernel_rfl) (by kernel_rfl) (by kernel_rfl) (by decide) (ih1 ((s1.1 ++ ([x5_3] : List Int)), (IntKind.wrap .i64 (s1.2 + 1))) p5_5 H)
    · refine J.condF (x := .tmp 11) (t := (decide (s1.2 < (a0.size : Int)))) (by kernel_rfl) (by kernel_rfl) hc4 ?_
      refine J.exit (id := 0) (by kernel_rfl) rfl ?_
      refine J.seq (by kernel_rfl) ?_
      refine J.region (by kernel_rfl) ?_
      refine O.pure 2 [] [2] [] (fr' := [(2, .slice g1.1 s1.1.length g1.2)]) (bx' := []) (by kernel_rfl) ?_
      refine O.nil (by kernel_rfl) ?_
      obtain rfl := Option.some.inj H
      exact J.doneS [] [] [] [] [0] g1 (vs := [.slice g1.1 s1.1.length g1.2]) (by kernel_rfl) (by kernel_rfl) (by kernel_rfl) (by kernel_rfl) (by kernel_rfl) (by decide)
  · exact J.conv2 [0, 3, 4] [] [] [0] (by kernel_rfl) (by kernel_rfl) (by kernel_rfl) (by kernel_rfl) (by decide) h_
/-! ### haywain/haywainref02.Frame: function 19 -/
def haywainref02_Frame.f (K : Nat) (a0 : List Int) : Option (List Int) := (haywainref02_Digits.f K (IntKind.wrap .u64 (a0.length : Int)) 4).bind fun x1_3 => (appO 1 ([] : List Int) x1_3).bind fun y2_2 => (appO 1 (([] : List Int) ++ x1_3) a0).bind fun y3_2 => (appO 1 ([] : List Int) x1_3).bind fun y4_2 => (haywainref02_Sum.f K ((([] : List Int) ++ x1_3) ++ a0)).bind fun x5_2 => (haywainref02_Digits.f K (IntKind.wrap .u64 x5_2) 4).bind fun x5_4 => (appO 1 (([] : List Int) ++ x1_3) x5_4).bind fun y5_5 => (appO 1 ((([] : List Int) ++ x1_3) ++ x5_4) a0).bind fun y6_2 => some ((((([] : List Int) ++ x1_3) ++ x5_4) ++ a0))
set_option maxRecDepth 100000 in
set_option maxHeartbeats 1000000 in
theorem haywainref02_Frame.con (K : Nat) (a0 : List Int) (h0 : Hd) (r : (List Int)) (X : Nat → Nat → Prop) (w : World) (hS : St X w [] [] [] [] [Rd (Kd.int .u8) h0.1 h0.2 a0] w) (H : haywainref02_Frame.f K a0 = some r) :
    Cn Try.prog 19 [.slice h0.1 a0.length h0.2] X w [] (fun i : Hd => .slice i.1 r.length i.2) (fun i => []) (fun i => [mkRow (Kd.int .u8) 5 (.slice i.1 r.length i.2) r]) (fun i => []) := by
  refine Cn.of Try.func19 (by kernel_rfl) hS ?_
  unfold haywainref02_Frame.f at H
  refine J.seq (by kernel_rfl) ?_
  refine J.region (by kernel_rfl) ?_
  refine O.pure 1 [] [0] [] (fr' := [(0, .slice h0.1 a0.length h0.2)]) (bx' := []) (by kernel_rfl) ?_
  refine O.nil (by kernel_rfl) ?_
  refine J.seq (by kernel_rfl) ?_
  obtain ⟨x1_3, hx1_3, H⟩ := bindE H
  refine J.region (by kernel_rfl) ?_
  refine O.pure 3 [] [0, 8] [] (fr' := [(0, .slice h0.1 a0.length h0.2), (8, .int .u64 (IntKind.wrap .u64 (a0.length : Int)))]) (bx' := []) (by kernel_rfl) ?_
  refine O.e (some 9) (Ev.call0 (xs := [.tmp 8, .const (.int .i64 4)]) [] (by kernel_rfl) (by kernel_rfl) (fun w hS => haywainref02_Digits.con K (IntKind.wrap .u64 (a0.length : Int)) 4  _ _ w hS hx1_3)) (by kernel_rfl) (fun p1_3 => ?_)
  refine O.pure 1 [] [0, 3] [] (fr' := [(0, .slice h0.1 a0.length h0.2), (3, .slice p1_3.1 x1_3.length p1_3.2)]) (bx' := []) (by kernel_rfl) ?_
  refine O.nil (by kernel_rfl) ?_
  refine J.seq (by kernel_rfl) ?_
  obtain ⟨y2_2, hy2_2, H⟩ := bindE H
  have hy2_2a := (appE hy2_2).1
  refine J.region (by kernel_rfl) ?_
  refine O.e (some 10) (Ev.lit (t := 22) (len := 0) (parts := #[]) (ps := []) (cs := []) (e := 5) (Kd.int .u8) ([] : List Int) (by kernel_rfl) (by kernel_rfl) (by kernel_rfl) (by kernel_rfl) (by kernel_rfl) (by decide) (fun w' hφ => (Els.nil _ _ _))) (by kernel_rfl) (fun p2_0 => ?_)
  refine O.pure 1 [] [0, 3, 10, 11] [] (fr' := [(0, .slice h0.1 a0.length h0.2), (3, .slice p1_3.1 x1_3.length p1_3.2), (10, .slice ((some ⟨p2_0, 0, none⟩, 0) : Hd).1 ([] : List Int).length ((some ⟨p2_0, 0, none⟩, 0) : Hd).2), (11, .slice p1_3.1 x1_3.length p1_3.2)]) (bx' := []) (by kernel_rfl) ?_
  refine O.e (some 12) (Ev.mono (fun w hS => hS.rowsel [1, 0] rfl (by decide)) (Ev.mono (fun w hS => hS.freezeH (h := p1_3) (xs := x1_3)) (Ev.appSl (d := (Kd.int .u8)) (ys := x1_3) (A := p1_3.1) (c := p1_3.2) (x := .tmp 10) (y := .tmp 11) (t := 22) (bytes := 1) 0 (by kernel_rfl) (by kernel_rfl) (by kernel_rfl) rfl (by kernel_rfl) (by decide) hy2_2a))) (by kernel_rfl) (fun p2_2 => ?_)
  refine O.pure 1 [] [0, 3, 4] [] (fr' := [(0, .slice h0.1 a0.length h0.2), (3, .slice p1_3.1 x1_3.length p1_3.2), (4, .slice p2_2.1 (([] : List Int) ++ x1_3).length p2_2.2)]) (bx' := []) (by kernel_rfl) ?_
  refine O.nil (by kernel_rfl) ?_
  refine J.seq (by kernel_rfl) ?_
  obtain ⟨y3_2, hy3_2, H⟩ := bindE H
  have hy3_2a := (appE hy3_2).1
  refine J.region (by kernel_rfl) ?_
  refine O.pure 2 [] [0, 3, 4, 13, 14] [] (fr' := [(0, .slice h0.1 a0.length h0.2), (3, .slice p1_3.1 x1_3.length p1_3.2), (4, .slice p2_2.1 (([] : List Int) ++ x1_3).length p2_2.2), (13, .slice p2_2.1 (([] : List Int) ++ x1_3).length p2_2.2), (14, .slice h0.1 a0.length h0.2)]) (bx' := []) (by kernel_rfl) ?_
  refine O.e (some 15) (Ev.appSl (d := (Kd.int .u8)) (ys := a0) (A := h0.1) (c := h0.2) (x := .tmp 13) (y := .tmp 14) (t := 22) (bytes := 1) 1 (by kernel_rfl) (by kernel_rfl) (by kernel_rfl) rfl (by kernel_rfl) (by decide) hy3_2a) (by kernel_rfl) (fun p3_2 => ?_)
  refine O.pure 1 [] [0, 3, 4] [] (fr' := [(0, .slice h0.1 a0.length h0.2), (3, .slice p1_3.1 x1_3.length p1_3.2), (4, .slice p3_2.1 ((([] : List Int) ++ x1_3) ++ a0).length p3_2.2)]) (bx' := []) (by kernel_rfl) ?_
  refine O.nil (by kernel_rfl) ?_
  refine J.seq (by kernel_rfl) ?_
  obtain ⟨y4_2, hy4_2, H⟩ := bindE H
  have hy4_2a := (appE hy4_2).1
  refine J.region (by kernel_rfl) ?_
  refine O.e (some 16) (Ev.lit (t := 22) (len := 0) (parts := #[]) (ps := []) (cs := []) (e := 5) (Kd.int .u8) ([] : List Int) (by kernel_rfl) (by kernel_rfl) (by kernel_rfl) (by kernel_rfl) (by kernel_rfl) (by decide) (fun w' hφ => (Els.nil _ _ _))) (by kernel_rfl) (fun p4_0 => ?_)
  refine O.pure 1 [] [0, 4, 16, 17] [] (fr' := [(0, .slice h0.1 a0.length h0.2), (4, .slice p3_2.1 ((([] : List Int) ++ x1_3) ++ a0).length p3_2.2), (16, .slice ((some ⟨p4_0, 0, none⟩, 0) : Hd).1 ([] : List Int).length ((some ⟨p4_0, 0, none⟩, 0) : Hd).2), (17, .slice p1_3.1 x1_3.length p1_3.2)]) (bx' := []) (by kernel_rfl) ?_
  refine O.e (some 18) (Ev.appSl (d := (Kd.int .u8)) (ys := x1_3) (A := p1_3.1) (c := p1_3.2) (x := .tmp 16) (y := .tmp 17) (t := 22) (bytes := 1) 0 (by kernel_rfl) (by kernel_rfl) (by kernel_rfl) rfl (by kernel_rfl) (by decide) hy4_2a) (by kernel_rfl) (fun p4_2 => ?_)
  refine O.pure 1 [] [0, 4, 5] [] (fr' := [(0, .slice h0.1 a0.length h0.2), (4, .slice p3_2.1 ((([] : List Int) ++ x1_3) ++ a0).length p3_2.2), (5, .slice p4_2.1 (([] : List Int) ++ x1_3).length p4_2.2)]) (bx' := []) (by kernel_rfl) ?_
  refine O.nil (by kernel_rfl) ?_
  refine J.seq (by kernel_rfl) ?_
  obtain ⟨x5_2, hx5_2, H⟩ := bindE H
  obtain ⟨x5_4, hx5_4, H⟩ := bindE H
  obtain ⟨y5_5, hy5_5, H⟩ := bindE H
  have hy5_5a := (appE hy5_5).1
  refine J.region (by kernel_rfl) ?_
  refine O.pure 2 [] [0, 5, 19, 20] [] (fr' := [(0, .slice h0.1 a0.length h0.2), (5, .slice p4_2.1 (([] : List Int) ++ x1_3).length p4_2.2), (19, .slice p4_2.1 (([] : List Int) ++ x1_3).length p4_2.2), (20, .slice p3_2.1 ((([] : List Int) ++ x1_3) ++ a0).length p3_2.2)]) (bx' := []) (by kernel_rfl) ?_
  refine O.e (some 21) (Ev.mono (fun w hS => hS.rowsel [1, 0] rfl (by decide)) (Ev.callL (hh := p3_2) (xs := ((([] : List Int) ++ x1_3) ++ a0)) (m := ((([] : List Int) ++ x1_3) ++ a0).length) (xs1 := [.tmp 20]) [0] rfl (by kernel_rfl) (by kernel_rfl) (fun _ q hq => by cases hq) (fun w hS => haywainref02_Sum.con K ((([] : List Int) ++ x1_3) ++ a0) p3_2  _ _ w hS hx5_2))) (by kernel_rfl) (fun _ => ?_)
  refine O.pure 1 [] [0, 5, 19, 22] [] (fr' := [(0, .slice h0.1 a0.length h0.2), (5, .slice p4_2.1 (([] : List Int) ++ x1_3).length p4_2.2), (19, .slice p4_2.1 (([] : List Int) ++ x1_3).length p4_2.2), (22, .int .u64 (IntKind.wrap .u64 x5_2))]) (bx' := []) (by kernel_rfl) ?_
  refine O.e (some 23) (Ev.call0 (xs := [.tmp 22, .const (.int .i64 4)]) [] (by kernel_rfl) (by kernel_rfl) (fun w hS => haywainref02_Digits.con K (IntKind.wrap .u64 x5_2) 4  _ _ w hS hx5_4)) (by kernel_rfl) (fun p5_4 => ?_)
  refine O.e (some 24) (Ev.mono (fun w hS => hS.freezeH (h := p5_4) (xs := x5_4)) (Ev.mono (fun w hS => hS.rowsel [1, 0] rfl (by decide)) (Ev.appSl (d := (Kd.int .u8)) (ys := x5_4) (A := p5_4.1) (c := p5_4.2) (x := .tmp 19) (y := .tmp 23) (t := 22) (bytes := 1) 0 (by kernel_rfl) (by kernel_rfl) (by kernel_rfl) rfl (by kernel_rfl) (by decide) hy5_5a))) (by kernel_rfl) (fun p5_5 => ?_)
  refine O.pure 1 [] [0, 5] [] (fr' := [(0, .slice h0.1 a0.length h0.2), (5, .slice p5_5.1 ((([] : List Int) ++ x1_3) ++ x5_4).length p5_5.2)]) (bx' := []) (by kernel_rfl) ?_
  refine O.nil (by kernel_rfl) ?_
  refine J.seq (by kernel_rfl) ?_
  obtain ⟨y6_2, hy6_2, H⟩ := bindE H
  have hy6_2a := (appE hy6_2).1
  refine J.region (by kernel_rfl) ?_
  refine O.pure 2 [] [25, 26] [] (fr' := [(25, .slice p5_5.1 ((([] : List Int) ++ x1_3) ++ x5_4).length p5_5.2), (26, .slice h0.1 a0.length h0.2)]) (bx' := []) (by kernel_rfl) ?_
  refine O.e (some 27) (Ev.appSl (d := (Kd.int .u8)) (ys := a0) (A := h0.1) (c := h0.2) (x := .tmp 25) (y := .tmp 26) (t := 22) (bytes := 1) 2 (by kernel_rfl) (by kernel_rfl) (by kernel_rfl) rfl (by kernel_rfl) (by decide) hy6_2a) (by kernel_rfl) (fun p6_2 => ?_)
  refine O.pure 1 [] [2] [] (fr' := [(2, .slice p6_2.1 (((([] : List Int) ++ x1_3) ++ x5_4) ++ a0).length p6_2.2)]) (bx' := []) (by kernel_rfl) ?_
  refine O.nil (by kernel_rfl) ?_
  obtain rfl := Option.some.inj H
  exact J.doneS [] [] [] [] [0] p6_2 (vs := [.slice p6_2.1 (((([] : List Int) ++ x1_3) ++ x5_4) ++ a0).length p6_2.2]) (by kernel_rfl) (by kernel_rfl) (by kernel_rfl) (by kernel_rfl) (by kernel_rfl) (by decide)
/-! ### haywain/haywainref02.Value: function 30 -/
def haywainref02_Value.l1 (K : Nat) (a0 : List Int) : Nat → (Int × Int) → Option Int
  | 0, _ => none
  | k + 1, s1 => cond (decide (s1.2 < (a0.length : Int))) ((idxO a0 s1.2).bind fun x5_4 => haywainref02_Value.l1 K a0 k ((IntKind.wrap .u64 ((IntKind.wrap .u64 (s1.1 * 256)) + (IntKind.wrap .u64 x5_4))), (IntKind.wrap .i64 (s1.2 + 1)))) (some (s1.1))
def haywainref02_Value.f (K : Nat) (a0 : List Int) : Option Int := haywainref02_Value.l1 K a0 K (0, 0)
set_option maxRecDepth 100000 in
set_option maxHeartbeats 1000000 in
theorem haywainref02_Value.con (K : Nat) (a0 : List Int) (h0 : Hd) (r : Int) (X : Nat → Nat → Prop) (w : World) (hS : St X w [] [] [] [] [Rd (Kd.int .u8) h0.1 h0.2 a0] w) (H : haywainref02_Value.f K a0 = some r) :
    Cn Try.prog 30 [.slice h0.1 a0.length h0.2] X w [] (fun i : Unit => .int .u64 r) (fun i => []) (fun i => []) (fun i => []) := by
  refine Cn.of Try.func30 (by kernel_rfl) hS ?_
  unfold haywainref02_Value.f at H
  refine J.seq (by kernel_rfl) ?_
  refine J.region (by kernel_rfl) ?_
  refine O.pure 1 [] [0] [] (fr' := [(0, .slice h0.1 a0.length h0.2)]) (bx' := []) (by kernel_rfl) ?_
  refine O.nil (by kernel_rfl) ?_
  refine J.seq (by kernel_rfl) ?_
  refine J.region (by kernel_rfl) ?_
  refine O.pure 1 [] [0, 3] [] (fr' := [(0, .slice h0.1 a0.length h0.2), (3, .int .u64 0)]) (bx' := []) (by kernel_rfl) ?_
  refine O.nil (by kernel_rfl) ?_
  refine J.seq (by kernel_rfl) ?_
  refine J.seq (by kernel_rfl) ?_
  refine J.region (by kernel_rfl) ?_
  refine O.pure 1 [] [0, 3, 4] [] (fr' := [(0, .slice h0.1 a0.length h0.2), (3, .int .u64 0), (4, .int .i64 0)]) (bx' := []) (by kernel_rfl) ?_
  refine O.nil (by kernel_rfl) ?_
  refine J.block (id := 0) (by kernel_rfl) ?_
  refine J.loopI (σ := Int × Int) (γ := Unit) (f := fun m_ s_ => haywainref02_Value.l1 K a0 m_ s_) (fun s1 g1 => [(0, .slice h0.1 a0.length h0.2), (3, .int .u64 s1.1), (4, .int .i64 s1.2)]) (fun s1 g1 => St X w [] [] [] [] [Rd (Kd.int .u8) h0.1 h0.2 a0]) K (0, 0) () (by kernel_rfl) H (fun _ => rfl) (fun m_ s1 H ih1 g1 => ?_) (fun h_ => ?_)
  · unfold haywainref02_Value.l1 at H
    refine J.seq (by kernel_rfl) ?_
    refine J.seq (by kernel_rfl) ?_
    refine J.region (by kernel_rfl) ?_
    refine O.pure 4 [] [0, 3, 4, 8] [] (fr' := [(0, .slice h0.1 a0.length h0.2), (3, .int .u64 s1.1), (4, .int .i64 s1.2), (8, .bool (decide (s1.2 < (a0.length : Int))))]) (bx' := []) (by kernel_rfl) ?_
    refine O.nil (by kernel_rfl) ?_
    rcases condE H with ⟨hc4, H⟩ | ⟨hc4, H⟩
    · refine J.condT (x := .tmp 8) (t := (decide (s1.2 < (a0.length : Int)))) (by kernel_rfl) (by kernel_rfl) hc4 ?_
      refine J.skip (by kernel_rfl) ?_
      refine J.seq (by kernel_rfl) ?_
      refine J.block (id := 1) (by kernel_rfl) ?_
      obtain ⟨x5_4, hx5_4, H⟩ := bindE H
      obtain ⟨hx5_4a, hx5_4⟩ := idxE hx5_4
      refine J.region (by kernel_rfl) ?_
      refine O.pure 4 [] [0, 3, 4, 12, 13, 14] [] (fr' := [(0, .slice h0.1 a0.length h0.2), (3, .int .u64 s1.1), (4, .int .i64 s1.2), (12, .int .u64 (IntKind.wrap .u64 (s1.1 * 256))), (13, .slice h0.1 a0.length h0.2), (14, .int .i64 s1.2)]) (bx' := []) (by kernel_rfl) ?_
      refine O.open (d := (Kd.int .u8)) (h := h0) (i := s1.2) 0 rfl hx5_4 (Lay.int _ _) (fun p5_4 hp5_4A => ?_)
      refine O.q (v := .pointer (some ⟨p5_4.1, p5_4.2.1 + s1.2.toNat * 1, none⟩)) (some 15) (Qu.idx (t := 22) (x := .tmp 13) (y := .tmp 14) (c := h0.2) (kk := .i64) (sz := 1) (by kernel_rfl) (by kernel_rfl) (by kernel_rfl) (by kernel_rfl) hx5_4a (idx_lt hx5_4) hp5_4A) (by kernel_rfl) ?_
      refine O.pure 4 [(0, 0)] [0, 3, 4] [p5_4.1, p5_4.2.1 + s1.2.toNat * 1] (fr' := [(0, .slice h0.1 a0.length h0.2), (3, .int .u64 (IntKind.wrap .u64 ((IntKind.wrap .u64 (s1.1 * 256)) + (IntKind.wrap .u64 x5_4)))), (4, .int .i64 s1.2)]) (bx' := []) (by kernel_rfl) ?_
      refine O.nil (by kernel_rfl) ?_
      refine J.out ?_
      refine J.region (by kernel_rfl) ?_
      refine O.pure 3 [] [0, 3, 4] [] (fr' := [(0, .slice h0.1 a0.length h0.2), (3, .int .u64 (IntKind.wrap .u64 ((IntKind.wrap .u64 (s1.1 * 256)) + (IntKind.wrap .u64 x5_4)))), (4, .int .i64 (IntKind.wrap .i64 (s1.2 + 1)))]) (bx' := []) (by kernel_rfl) ?_
      refine O.nil (by kernel_rfl) ?_
      exact J.conv2 [0, 3, 4] [0] [] [] (by kernel_rfl) (by kernel_rfl) (by kernel_rfl) (by kernel_rfl) (by decide) (ih1 ((IntKind.wrap .u64 ((IntKind.wrap .u64 (s1.1 * 256)) + (IntKind.wrap .u64 x5_4))), (IntKind.wrap .i64 (s1.2 + 1))) () H)
    · refine J.condF (x := .tmp 8) (t := (decide (s1.2 < (a0.length : Int)))) (by kernel_rfl) (by kernel_rfl) hc4 ?_
      refine J.exit (id := 0) (by kernel_rfl) rfl ?_
      refine J.seq (by kernel_rfl) ?_
      refine J.region (by kernel_rfl) ?_
      refine O.pure 2 [] [2] [] (fr' := [(2, .int .u64 s1.1)]) (bx' := []) (by kernel_rfl) ?_
      refine O.nil (by kernel_rfl) ?_
      obtain rfl := Option.some.inj H
      exact J.doneS [] [] [] [] [] () (vs := [.int .u64 s1.1]) (by kernel_rfl) (by kernel_rfl) (by kernel_rfl) (by kernel_rfl) (by kernel_rfl) (by decide)
  · exact J.conv2 [0, 3, 4] [0] [] [] (by kernel_rfl) (by kernel_rfl) (by kernel_rfl) (by kernel_rfl) (by decide) h_
/-! ### haywain/haywainref02.TakeFrame: function 21 -/
def haywainref02_TakeFrame.f (K : Nat) (a0 : List Int) : Option ((List Int) × Int × Int) := cond (decide ((a0.length : Int) < 8)) (some ((([] : List Int), 0, 2))) ((cutO a0 0 4).bind fun y3_1 => (haywainref02_Value.f K (cutL a0 ((0 : Int).toNat) ((4 : Int).toNat))).bind fun x3_2 => cond (decide (x3_2 > 4000)) (some ((([] : List Int), 0, 2))) (cond (decide ((IntKind.wrap .i64 x3_2) > (IntKind.wrap .i64 ((a0.length : Int) - 8)))) (some ((([] : List Int), 0, 2))) ((cutO a0 8 (IntKind.wrap .i64 (8 + (IntKind.wrap .i64 x3_2)))).bind fun y6_4 => (haywainref02_Frame.f K (cutL a0 ((8 : Int).toNat) (((IntKind.wrap .i64 (8 + (IntKind.wrap .i64 x3_2))) : Int).toNat))).bind fun x7_1 => (cutO a0 0 (IntKind.wrap .i64 (8 + (IntKind.wrap .i64 x3_2)))).bind fun y7_7 => cond (!((strOfNums x7_1).toList == (strOfNums (cutL a0 ((0 : Int).toNat) (((IntKind.wrap .i64 (8 + (IntKind.wrap .i64 x3_2))) : Int).toNat))).toList)) (some ((([] : List Int), 0, 7))) (some (((cutL a0 ((8 : Int).toNat) (((IntKind.wrap .i64 (8 + (IntKind.wrap .i64 x3_2))) : Int).toNat)), (IntKind.wrap .i64 (8 + (IntKind.wrap .i64 x3_2))), 0))))))
set_option maxRecDepth 100000 in
set_option maxHeartbeats 1000000 in
theorem haywainref02_TakeFrame.con (K : Nat) (a0 : List Int) (h0 : Hd) (r : ((List Int) × Int × Int)) (X : Nat → Nat → Prop) (w : World) (hS : St X w [] [] [] [] [Rd (Kd.int .u8) h0.1 h0.2 a0] w) (H : haywainref02_TakeFrame.f K a0 = some r) :
    Cn Try.prog 21 [.slice h0.1 a0.length h0.2] X w [] (fun i : Hd => .tuple #[.slice i.1 r.1.length i.2, .int .i64 r.2.1, .int .i64 r.2.2]) (fun i => []) (fun i => []) (fun i => [Rd (Kd.int .u8) i.1 i.2 r.1]) := by
  refine Cn.of Try.func21 (by kernel_rfl) hS ?_
  unfold haywainref02_TakeFrame.f at H
  refine J.seq (by kernel_rfl) ?_
  refine J.region (by kernel_rfl) ?_
  refine O.pure 3 [] [0] [] (fr' := [(0, .slice h0.1 a0.length h0.2)]) (bx' := []) (by kernel_rfl) ?_
  refine O.nil (by kernel_rfl) ?_
  refine J.seq (by kernel_rfl) ?_
  refine J.seq (by kernel_rfl) ?_
  refine J.region (by kernel_rfl) ?_
  refine O.pure 3 [] [0, 9] [] (fr' := [(0, .slice h0.1 a0.length h0.2), (9, .bool (decide ((a0.length : Int) < 8)))]) (bx' := []) (by kernel_rfl) ?_
  refine O.nil (by kernel_rfl) ?_
  rcases condE H with ⟨hc1, H⟩ | ⟨hc1, H⟩
  · refine J.condT (x := .tmp 9) (t := (decide ((a0.length : Int) < 8))) (by kernel_rfl) (by kernel_rfl) hc1 ?_
    refine J.seq (by kernel_rfl) ?_
    refine J.region (by kernel_rfl) ?_
    refine O.pure 3 [] [2, 3, 4] [] (fr' := [(2, .slice none 0 0), (3, .int .i64 0), (4, .int .i64 2)]) (bx' := []) (by kernel_rfl) ?_
    refine O.nil (by kernel_rfl) ?_
    obtain rfl := Option.some.inj H
    refine J.nilF (Kd.int .u8) ?_
    exact J.doneS [] [] [0] [] [] (none, 0) (vs := [.slice none 0 0, .int .i64 0, .int .i64 2]) (by kernel_rfl) (by kernel_rfl) (by kernel_rfl) (by kernel_rfl) (by kernel_rfl) (by decide)
  · refine J.condF (x := .tmp 9) (t := (decide ((a0.length : Int) < 8))) (by kernel_rfl) (by kernel_rfl) hc1 ?_
    refine J.skip (by kernel_rfl) ?_
    refine J.seq (by kernel_rfl) ?_
    obtain ⟨y3_1, hy3_1, H⟩ := bindE H
    obtain ⟨hy3_1a, hy3_1b, hy3_1c, -⟩ := cutE hy3_1
    obtain ⟨x3_2, hx3_2, H⟩ := bindE H
    refine J.region (by kernel_rfl) ?_
    refine O.pure 1 [] [0, 10] [] (fr' := [(0, .slice h0.1 a0.length h0.2), (10, .slice h0.1 a0.length h0.2)]) (bx' := []) (by kernel_rfl) ?_
    refine O.e (some 11) (Ev.cut (d := (Kd.int .u8)) (xs := a0) (t := 22) (x := .tmp 10) (lo := none) (hi := (some (.const (.int .i64 4)))) (vlo := none) (vhi := (some (.int .i64 4))) (A := h0.1) (c := h0.2) (l := (0 : Int).toNat) (h := (4 : Int).toNat) 0 (by kernel_rfl) (by kernel_rfl) (by kernel_rfl) (by kernel_rfl) (by kernel_rfl) (Bd.dflt _) (Bd.val _ _ _ (by omega)) (by omega) (by omega) rfl) (by kernel_rfl) (fun p3_1 => ?_)
    refine O.e (some 12) (Ev.call0 (xs := [.tmp 11]) [0] (by kernel_rfl) (by kernel_rfl) (fun w hS => haywainref02_Value.con K (cutL a0 ((0 : Int).toNat) ((4 : Int).toNat)) p3_1  _ _ w hS hx3_2)) (by kernel_rfl) (fun _ => ?_)
    refine O.pure 1 [] [0, 5] [] (fr' := [(0, .slice h0.1 a0.length h0.2), (5, .int .u64 x3_2)]) (bx' := []) (by kernel_rfl) ?_
    refine O.nil (by kernel_rfl) ?_
    refine J.seq (by kernel_rfl) ?_
    refine J.seq (by kernel_rfl) ?_
    rcases condE H with ⟨hc2, H⟩ | ⟨hc2, H⟩
    · refine J.region (by kernel_rfl) ?_
      refine O.pure 1 [] [0, 5, 13] [] (fr' := [(0, .slice h0.1 a0.length h0.2), (5, .int .u64 x3_2), (13, .int .u64 x3_2)]) (bx' := []) (by kernel_rfl) ?_
      refine O.q (v := .bool true) (some 14) (Qu.eqv (u := .bool (decide (x3_2 > 4000))) (v := .bool true) (0, 0) [] (by kernel_rfl) (congrArg Value.bool hc2)) (by kernel_rfl) ?_
      refine O.pure 8 [] [0, 5, 22] [] (fr' := [(0, .slice h0.1 a0.length h0.2), (5, .int .u64 x3_2), (22, .bool true)]) (bx' := []) (by kernel_rfl) ?_
      refine O.nil (by kernel_rfl) ?_
      refine J.cond (o := .tmp 22) true (by kernel_rfl) (by kernel_rfl) ?_
      refine J.seq (by kernel_rfl) ?_
      refine J.region (by kernel_rfl) ?_
      refine O.pure 3 [] [2, 3, 4] [] (fr' := [(2, .slice none 0 0), (3, .int .i64 0), (4, .int .i64 2)]) (bx' := []) (by kernel_rfl) ?_
      refine O.nil (by kernel_rfl) ?_
      obtain rfl := Option.some.inj H
      refine J.nilF (Kd.int .u8) ?_
      exact J.doneS [] [] [0] [] [] (none, 0) (vs := [.slice none 0 0, .int .i64 0, .int .i64 2]) (by kernel_rfl) (by kernel_rfl) (by kernel_rfl) (by kernel_rfl) (by kernel_rfl) (by decide)
    · refine J.region (by kernel_rfl) ?_
      refine O.pure 1 [] [0, 5, 13] [] (fr' := [(0, .slice h0.1 a0.length h0.2), (5, .int .u64 x3_2), (13, .int .u64 x3_2)]) (bx' := []) (by kernel_rfl) ?_
      refine O.q (v := .bool false) (some 14) (Qu.eqv (u := .bool (decide (x3_2 > 4000))) (v := .bool false) (0, 0) [] (by kernel_rfl) (congrArg Value.bool hc2)) (by kernel_rfl) ?_
      refine O.pure 8 [] [0, 5, 22] [] (fr' := [(0, .slice h0.1 a0.length h0.2), (5, .int .u64 x3_2), (22, .bool (decide ((IntKind.wrap .i64 x3_2) > (IntKind.wrap .i64 ((a0.length : Int) - 8)))))]) (bx' := []) (by kernel_rfl) ?_
      refine O.nil (by kernel_rfl) ?_
      rcases condE H with ⟨hc3, H⟩ | ⟨hc3, H⟩
      · refine J.condT (x := .tmp 22) (t := (decide ((IntKind.wrap .i64 x3_2) > (IntKind.wrap .i64 ((a0.length : Int) - 8))))) (by kernel_rfl) (by kernel_rfl) hc3 ?_
        refine J.seq (by kernel_rfl) ?_
        refine J.region (by kernel_rfl) ?_
        refine O.pure 3 [] [2, 3, 4] [] (fr' := [(2, .slice none 0 0), (3, .int .i64 0), (4, .int .i64 2)]) (bx' := []) (by kernel_rfl) ?_
        refine O.nil (by kernel_rfl) ?_
        obtain rfl := Option.some.inj H
        refine J.nilF (Kd.int .u8) ?_
        exact J.doneS [] [] [0] [] [] (none, 0) (vs := [.slice none 0 0, .int .i64 0, .int .i64 2]) (by kernel_rfl) (by kernel_rfl) (by kernel_rfl) (by kernel_rfl) (by kernel_rfl) (by decide)
      · refine J.condF (x := .tmp 22) (t := (decide ((IntKind.wrap .i64 x3_2) > (IntKind.wrap .i64 ((a0.length : Int) - 8))))) (by kernel_rfl) (by kernel_rfl) hc3 ?_
        refine J.skip (by kernel_rfl) ?_
        refine J.seq (by kernel_rfl) ?_
        obtain ⟨y6_4, hy6_4, H⟩ := bindE H
        obtain ⟨hy6_4a, hy6_4b, hy6_4c, -⟩ := cutE hy6_4
        refine J.region (by kernel_rfl) ?_
        refine O.pure 4 [] [0, 5, 23, 26] [] (fr' := [(0, .slice h0.1 a0.length h0.2), (5, .int .u64 x3_2), (23, .slice h0.1 a0.length h0.2), (26, .int .i64 (IntKind.wrap .i64 (8 + (IntKind.wrap .i64 x3_2))))]) (bx' := []) (by kernel_rfl) ?_
        refine O.e (some 27) (Ev.cut (d := (Kd.int .u8)) (xs := a0) (t := 22) (x := .tmp 23) (lo := (some (.const (.int .i64 8)))) (hi := (some (.tmp 26))) (vlo := (some (.int .i64 8))) (vhi := (some (.int .i64 (IntKind.wrap .i64 (8 + (IntKind.wrap .i64 x3_2)))))) (A := h0.1) (c := h0.2) (l := (8 : Int).toNat) (h := ((IntKind.wrap .i64 (8 + (IntKind.wrap .i64 x3_2))) : Int).toNat) 1 (by kernel_rfl) (by kernel_rfl) (by kernel_rfl) (by kernel_rfl) (by kernel_rfl) (Bd.val _ _ _ (by omega)) (Bd.val _ _ _ (by omega)) (by omega) (by omega) rfl) (by kernel_rfl) (fun p6_4 => ?_)
        refine O.pure 1 [] [0, 5, 6] [] (fr' := [(0, .slice h0.1 a0.length h0.2), (5, .int .u64 x3_2), (6, .slice p6_4.1 (cutL a0 ((8 : Int).toNat) (((IntKind.wrap .i64 (8 + (IntKind.wrap .i64 x3_2))) : Int).toNat)).length p6_4.2)]) (bx' := []) (by kernel_rfl) ?_
        refine O.nil (by kernel_rfl) ?_
        refine J.seq (by kernel_rfl) ?_
        refine J.seq (by kernel_rfl) ?_
        obtain ⟨x7_1, hx7_1, H⟩ := bindE H
        obtain ⟨y7_7, hy7_7, H⟩ := bindE H
        obtain ⟨hy7_7a, hy7_7b, hy7_7c, -⟩ := cutE hy7_7
        refine J.cutAt (γ := Hd × Hd) (fun q_ => [(5, .int .u64 x3_2), (6, .slice p6_4.1 (cutL a0 ((8 : Int).toNat) (((IntKind.wrap .i64 (8 + (IntKind.wrap .i64 x3_2))) : Int).toNat)).length p6_4.2), (37, .bool (!((strOfNums x7_1).toList == (strOfNums (cutL a0 ((0 : Int).toNat) (((IntKind.wrap .i64 (8 + (IntKind.wrap .i64 x3_2))) : Int).toNat))).toList)))]) (fun q_ => St X w [] [] [] [] [Rd (Kd.int .u8) q_.2.1 q_.2.2 (cutL a0 ((0 : Int).toNat) (((IntKind.wrap .i64 (8 + (IntKind.wrap .i64 x3_2))) : Int).toNat)), Rd (Kd.int .u8) q_.1.1 q_.1.2 x7_1, Rd (Kd.int .u8) p6_4.1 p6_4.2 (cutL a0 ((8 : Int).toNat) (((IntKind.wrap .i64 (8 + (IntKind.wrap .i64 x3_2))) : Int).toNat)), Rd (Kd.int .u8) p3_1.1 p3_1.2 (cutL a0 ((0 : Int).toNat) ((4 : Int).toNat)), Rd (Kd.int .u8) h0.1 h0.2 a0]) (fun q_ => ?_) (fun hk_ => ?_)
        · obtain ⟨p7_1, p7_7⟩ := q_
          rcases condE H with ⟨hc4, H⟩ | ⟨hc4, H⟩
          · refine J.condT (x := .tmp 37) (t := (!((strOfNums x7_1).toList == (strOfNums (cutL a0 ((0 : Int).toNat) (((IntKind.wrap .i64 (8 + (IntKind.wrap .i64 x3_2))) : Int).toNat))).toList))) (by kernel_rfl) (by kernel_rfl) hc4 ?_
            refine J.seq (by kernel_rfl) ?_
            refine J.region (by kernel_rfl) ?_
            refine O.pure 3 [] [2, 3, 4] [] (fr' := [(2, .slice none 0 0), (3, .int .i64 0), (4, .int .i64 7)]) (bx' := []) (by kernel_rfl) ?_
            refine O.nil (by kernel_rfl) ?_
            obtain rfl := Option.some.inj H
            refine J.nilF (Kd.int .u8) ?_
            exact J.doneS [] [] [0] [] [] (none, 0) (vs := [.slice none 0 0, .int .i64 0, .int .i64 7]) (by kernel_rfl) (by kernel_rfl) (by kernel_rfl) (by kernel_rfl) (by kernel_rfl) (by decide)
          · refine J.condF (x := .tmp 37) (t := (!((strOfNums x7_1).toList == (strOfNums (cutL a0 ((0 : Int).toNat) (((IntKind.wrap .i64 (8 + (IntKind.wrap .i64 x3_2))) : Int).toNat))).toList))) (by kernel_rfl) (by kernel_rfl) hc4 ?_
            refine J.skip (by kernel_rfl) ?_
            refine J.seq (by kernel_rfl) ?_
            refine J.region (by kernel_rfl) ?_
            refine O.pure 7 [] [2, 3, 4] [] (fr' := [(2, .slice p6_4.1 (cutL a0 ((8 : Int).toNat) (((IntKind.wrap .i64 (8 + (IntKind.wrap .i64 x3_2))) : Int).toNat)).length p6_4.2), (3, .int .i64 (IntKind.wrap .i64 (8 + (IntKind.wrap .i64 x3_2)))), (4, .int .i64 0)]) (bx' := []) (by kernel_rfl) ?_
            refine O.nil (by kernel_rfl) ?_
            obtain rfl := Option.some.inj H
            exact J.doneS [] [] [2] [] [] p6_4 (vs := [.slice p6_4.1 (cutL a0 ((8 : Int).toNat) (((IntKind.wrap .i64 (8 + (IntKind.wrap .i64 x3_2))) : Int).toNat)).length p6_4.2, .int .i64 (IntKind.wrap .i64 (8 + (IntKind.wrap .i64 x3_2))), .int .i64 0]) (by kernel_rfl) (by kernel_rfl) (by kernel_rfl) (by kernel_rfl) (by kernel_rfl) (by decide)
        · refine J.drawS (by kernel_rfl) [(0, some 28, .slice p6_4.1 (cutL a0 ((8 : Int).toNat) (((IntKind.wrap .i64 (8 + (IntKind.wrap .i64 x3_2))) : Int).toNat)).length p6_4.2), (3, some 31, .slice h0.1 a0.length h0.2), (4, some 32, .int .u64 x3_2), (5, some 33, .int .i64 (IntKind.wrap .i64 x3_2)), (6, some 34, .int .i64 (IntKind.wrap .i64 (8 + (IntKind.wrap .i64 x3_2))))] ([0, 3, 4, 5, 6] ++ []) (by kernel_rfl) ?_
          refine D.mid (cs := [1, 7]) [0, 3, 4, 5, 6] [] [] [] (by kernel_rfl) (by kernel_rfl) trivial (by kernel_rfl) ⟨?_, ?_, trivial⟩
          · refine EvStep.mk (some 29) (new := fun p7_1 => [(2, some 30, .string (strOfNums x7_1))]) ([3, 4, 5, 6] ++ [2]) (by kernel_rfl) (Ev.call0 (xs := [.tmp 28]) [0] (by kernel_rfl) (by kernel_rfl) (fun w hS => haywainref02_Frame.con K (cutL a0 ((8 : Int).toNat) (((IntKind.wrap .i64 (8 + (IntKind.wrap .i64 x3_2))) : Int).toNat)) p6_4  _ _ w hS hx7_1)) (fun p7_1 => by kernel_rfl) (fun p7_1 => ?_)
            refine D.mono (fun w hS => hS.freezeH (h := p7_1) (xs := x7_1)) ?_
            refine D.mid (cs := [7]) [3, 4, 5, 6] [2] [] [] (by kernel_rfl) (by kernel_rfl) (⟨QuAt.mk (v := .string (strOfNums x7_1)) (some 30) (by kernel_rfl) (by kernel_rfl) (Qu.str (t := 22) (u := 9) (x := .tmp 29) (h := p7_1) (xs := x7_1) 0 (by kernel_rfl) (by kernel_rfl) (by kernel_rfl) (by kernel_rfl) rfl), trivial⟩) (by kernel_rfl) ⟨?_, trivial⟩
            refine EvStep.mk (some 35) (new := fun p7_7 => [(8, some 36, .string (strOfNums (cutL a0 ((0 : Int).toNat) (((IntKind.wrap .i64 (8 + (IntKind.wrap .i64 x3_2))) : Int).toNat)))), (9, some 37, .bool (!((strOfNums x7_1).toList == (strOfNums (cutL a0 ((0 : Int).toNat) (((IntKind.wrap .i64 (8 + (IntKind.wrap .i64 x3_2))) : Int).toNat))).toList)))]) ([4, 5, 9] ++ [2, 8]) (by kernel_rfl) (Ev.cut (d := (Kd.int .u8)) (xs := a0) (t := 22) (x := .tmp 31) (lo := none) (hi := (some (.tmp 34))) (vlo := none) (vhi := (some (.int .i64 (IntKind.wrap .i64 (8 + (IntKind.wrap .i64 x3_2)))))) (A := h0.1) (c := h0.2) (l := (0 : Int).toNat) (h := ((IntKind.wrap .i64 (8 + (IntKind.wrap .i64 x3_2))) : Int).toNat) 3 (by kernel_rfl) (by kernel_rfl) (by kernel_rfl) (by kernel_rfl) (by kernel_rfl) (Bd.dflt _) (Bd.val _ _ _ (by omega)) (by omega) (by omega) rfl) (fun p7_7 => by kernel_rfl) (fun p7_7 => ?_)
            refine D.fin (fr' := [(5, .int .u64 x3_2), (6, .slice p6_4.1 (cutL a0 ((8 : Int).toNat) (((IntKind.wrap .i64 (8 + (IntKind.wrap .i64 x3_2))) : Int).toNat)).length p6_4.2), (37, .bool (!((strOfNums x7_1).toList == (strOfNums (cutL a0 ((0 : Int).toNat) (((IntKind.wrap .i64 (8 + (IntKind.wrap .i64 x3_2))) : Int).toNat))).toList)))]) [4, 5, 9] [2, 8] [] [] [5, 6, 37] (by kernel_rfl) (by kernel_rfl) (⟨QuAt.mk (v := .string (strOfNums x7_1)) (some 30) (by kernel_rfl) (by kernel_rfl) (Qu.str (t := 22) (u := 9) (x := .tmp 29) (h := p7_1) (xs := x7_1) 1 (by kernel_rfl) (by kernel_rfl) (by kernel_rfl) (by kernel_rfl) rfl), QuAt.mk (v := .string (strOfNums (cutL a0 ((0 : Int).toNat) (((IntKind.wrap .i64 (8 + (IntKind.wrap .i64 x3_2))) : Int).toNat)))) (some 36) (by kernel_rfl) (by kernel_rfl) (Qu.str (t := 22) (u := 9) (x := .tmp 35) (h := p7_7) (xs := (cutL a0 ((0 : Int).toNat) (((IntKind.wrap .i64 (8 + (IntKind.wrap .i64 x3_2))) : Int).toNat))) 0 (by kernel_rfl) (by kernel_rfl) (by kernel_rfl) (by kernel_rfl) rfl), trivial⟩) (by kernel_rfl) ?_
            exact J.conv2 [5, 6, 37] [0, 1, 2, 3, 4] [] [] (by kernel_rfl) (by kernel_rfl) (by kernel_rfl) (by kernel_rfl) (by decide) (hk_ (p7_1, p7_7))
          · refine EvStep.mk (some 35) (new := fun p7_7 => [(8, some 36, .string (strOfNums (cutL a0 ((0 : Int).toNat) (((IntKind.wrap .i64 (8 + (IntKind.wrap .i64 x3_2))) : Int).toNat))))]) ([0, 4, 5] ++ [8]) (by kernel_rfl) (Ev.cut (d := (Kd.int .u8)) (xs := a0) (t := 22) (x := .tmp 31) (lo := none) (hi := (some (.tmp 34))) (vlo := none) (vhi := (some (.int .i64 (IntKind.wrap .i64 (8 + (IntKind.wrap .i64 x3_2)))))) (A := h0.1) (c := h0.2) (l := (0 : Int).toNat) (h := ((IntKind.wrap .i64 (8 + (IntKind.wrap .i64 x3_2))) : Int).toNat) 2 (by kernel_rfl) (by kernel_rfl) (by kernel_rfl) (by kernel_rfl) (by kernel_rfl) (Bd.dflt _) (Bd.val _ _ _ (by omega)) (by omega) (by omega) rfl) (fun p7_7 => by kernel_rfl) (fun p7_7 => ?_)
            refine D.mid (cs := [1]) [0, 4, 5] [8] [] [] (by kernel_rfl) (by kernel_rfl) (⟨QuAt.mk (v := .string (strOfNums (cutL a0 ((0 : Int).toNat) (((IntKind.wrap .i64 (8 + (IntKind.wrap .i64 x3_2))) : Int).toNat)))) (some 36) (by kernel_rfl) (by kernel_rfl) (Qu.str (t := 22) (u := 9) (x := .tmp 35) (h := p7_7) (xs := (cutL a0 ((0 : Int).toNat) (((IntKind.wrap .i64 (8 + (IntKind.wrap .i64 x3_2))) : Int).toNat))) 0 (by kernel_rfl) (by kernel_rfl) (by kernel_rfl) (by kernel_rfl) rfl), trivial⟩) (by kernel_rfl) ⟨?_, trivial⟩
            refine EvStep.mk (some 29) (new := fun p7_1 => [(2, some 30, .string (strOfNums x7_1)), (9, some 37, .bool (!((strOfNums x7_1).toList == (strOfNums (cutL a0 ((0 : Int).toNat) (((IntKind.wrap .i64 (8 + (IntKind.wrap .i64 x3_2))) : Int).toNat))).toList)))]) ([4, 5, 9] ++ [8, 2]) (by kernel_rfl) (Ev.call0 (xs := [.tmp 28]) [1] (by kernel_rfl) (by kernel_rfl) (fun w hS => haywainref02_Frame.con K (cutL a0 ((8 : Int).toNat) (((IntKind.wrap .i64 (8 + (IntKind.wrap .i64 x3_2))) : Int).toNat)) p6_4  _ _ w hS hx7_1)) (fun p7_1 => by kernel_rfl) (fun p7_1 => ?_)
            refine D.mono (fun w hS => hS.freezeH (h := p7_1) (xs := x7_1)) ?_
            refine D.fin (fr' := [(5, .int .u64 x3_2), (6, .slice p6_4.1 (cutL a0 ((8 : Int).toNat) (((IntKind.wrap .i64 (8 + (IntKind.wrap .i64 x3_2))) : Int).toNat)).length p6_4.2), (37, .bool (!((strOfNums x7_1).toList == (strOfNums (cutL a0 ((0 : Int).toNat) (((IntKind.wrap .i64 (8 + (IntKind.wrap .i64 x3_2))) : Int).toNat))).toList)))]) [4, 5, 9] [8, 2] [] [] [5, 6, 37] (by kernel_rfl) (by kernel_rfl) (⟨QuAt.mk (v := .string (strOfNums (cutL a0 ((0 : Int).toNat) (((IntKind.wrap .i64 (8 + (IntKind.wrap .i64 x3_2))) : Int).toNat)))) (some 36) (by kernel_rfl) (by kernel_rfl) (Qu.str (t := 22) (u := 9) (x := .tmp 35) (h := p7_7) (xs := (cutL a0 ((0 : Int).toNat) (((IntKind.wrap .i64 (8 + (IntKind.wrap .i64 x3_2))) : Int).toNat))) 1 (by kernel_rfl) (by kernel_rfl) (by kernel_rfl) (by kernel_rfl) rfl), QuAt.mk (v := .string (strOfNums x7_1)) (some 30) (by kernel_rfl) (by kernel_rfl) (Qu.str (t := 22) (u := 9) (x := .tmp 29) (h := p7_1) (xs := x7_1) 0 (by kernel_rfl) (by kernel_rfl) (by kernel_rfl) (by kernel_rfl) rfl), trivial⟩) (by kernel_rfl) ?_
            exact J.conv2 [5, 6, 37] [1, 0, 2, 3, 4] [] [] (by kernel_rfl) (by kernel_rfl) (by kernel_rfl) (by kernel_rfl) (by decide) (hk_ (p7_1, p7_7))
/-! ### haywain/haywainref02.TakeNum: function 23 -/
def haywainref02_TakeNum.f (K : Nat) (a0 : List Int) : Option (Int × Bool) := cond (decide ((a0.length : Int) < 8)) (some ((0, false))) ((cutO a0 0 8).bind fun y3_1 => (haywainref02_Value.f K (cutL a0 ((0 : Int).toNat) ((8 : Int).toNat))).bind fun x3_2 => some (((IntKind.wrap .i64 x3_2), true)))
set_option maxRecDepth 100000 in
set_option maxHeartbeats 1000000 in
theorem haywainref02_TakeNum.con (K : Nat) (a0 : List Int) (h0 : Hd) (r : (Int × Bool)) (X : Nat → Nat → Prop) (w : World) (hS : St X w [] [] [] [] [Rd (Kd.int .u8) h0.1 h0.2 a0] w) (H : haywainref02_TakeNum.f K a0 = some r) :
    Cn Try.prog 23 [.slice h0.1 a0.length h0.2] X w [] (fun i : Unit => .tuple #[.int .i64 r.1, .bool r.2]) (fun i => []) (fun i => []) (fun i => []) := by
  refine Cn.of Try.func23 (by kernel_rfl) hS ?_
  unfold haywainref02_TakeNum.f at H
  refine J.seq (by kernel_rfl) ?_
  refine J.region (by kernel_rfl) ?_
  refine O.pure 2 [] [0] [] (fr' := [(0, .slice h0.1 a0.length h0.2)]) (bx' := []) (by kernel_rfl) ?_
  refine O.nil (by kernel_rfl) ?_
  refine J.seq (by kernel_rfl) ?_
  refine J.seq (by kernel_rfl) ?_
  refine J.region (by kernel_rfl) ?_
  refine O.pure 3 [] [0, 6] [] (fr' := [(0, .slice h0.1 a0.length h0.2), (6, .bool (decide ((a0.length : Int) < 8)))]) (bx' := []) (by kernel_rfl) ?_
  refine O.nil (by kernel_rfl) ?_
  rcases condE H with ⟨hc1, H⟩ | ⟨hc1, H⟩
  · refine J.condT (x := .tmp 6) (t := (decide ((a0.length : Int) < 8))) (by kernel_rfl) (by kernel_rfl) hc1 ?_
    refine J.seq (by kernel_rfl) ?_
    refine J.region (by kernel_rfl) ?_
    refine O.pure 2 [] [2, 3] [] (fr' := [(2, .int .i64 0), (3, .bool false)]) (bx' := []) (by kernel_rfl) ?_
    refine O.nil (by kernel_rfl) ?_
    obtain rfl := Option.some.inj H
    exact J.doneS [] [] [] [] [] () (vs := [.int .i64 0, .bool false]) (by kernel_rfl) (by kernel_rfl) (by kernel_rfl) (by kernel_rfl) (by kernel_rfl) (by decide)
  · refine J.condF (x := .tmp 6) (t := (decide ((a0.length : Int) < 8))) (by kernel_rfl) (by kernel_rfl) hc1 ?_
    refine J.skip (by kernel_rfl) ?_
    refine J.seq (by kernel_rfl) ?_
    obtain ⟨y3_1, hy3_1, H⟩ := bindE H
    obtain ⟨hy3_1a, hy3_1b, hy3_1c, -⟩ := cutE hy3_1
    obtain ⟨x3_2, hx3_2, H⟩ := bindE H
    refine J.region (by kernel_rfl) ?_
    refine O.pure 1 [] [7] [] (fr' := [(7, .slice h0.1 a0.length h0.2)]) (bx' := []) (by kernel_rfl) ?_
    refine O.e (some 8) (Ev.cut (d := (Kd.int .u8)) (xs := a0) (t := 22) (x := .tmp 7) (lo := none) (hi := (some (.const (.int .i64 8)))) (vlo := none) (vhi := (some (.int .i64 8))) (A := h0.1) (c := h0.2) (l := (0 : Int).toNat) (h := (8 : Int).toNat) 0 (by kernel_rfl) (by kernel_rfl) (by kernel_rfl) (by kernel_rfl) (by kernel_rfl) (Bd.dflt _) (Bd.val _ _ _ (by omega)) (by omega) (by omega) rfl) (by kernel_rfl) (fun p3_1 => ?_)
    refine O.e (some 9) (Ev.call0 (xs := [.tmp 8]) [0] (by kernel_rfl) (by kernel_rfl) (fun w hS => haywainref02_Value.con K (cutL a0 ((0 : Int).toNat) ((8 : Int).toNat)) p3_1  _ _ w hS hx3_2)) (by kernel_rfl) (fun _ => ?_)
    refine O.pure 3 [] [2, 3] [] (fr' := [(2, .int .i64 (IntKind.wrap .i64 x3_2)), (3, .bool true)]) (bx' := []) (by kernel_rfl) ?_
    refine O.nil (by kernel_rfl) ?_
    obtain rfl := Option.some.inj H
    exact J.doneS [] [] [] [] [] () (vs := [.int .i64 (IntKind.wrap .i64 x3_2), .bool true]) (by kernel_rfl) (by kernel_rfl) (by kernel_rfl) (by kernel_rfl) (by kernel_rfl) (by decide)
/-! ### haywain/code.TakeText: function 24 -/
def code_TakeText.f (K : Nat) (a0 : List Int) : Option (ByteArray × (List Int) × Int) := (code_TakeNum.f K a0).bind fun x1_1 => cond (x1_1.2.2 != 0) (some (((⟨#[]⟩ : ByteArray), ([] : List Int), 2))) (cond (decide (x1_1.1 < 0)) (some (((⟨#[]⟩ : ByteArray), ([] : List Int), 2))) (cond (decide (x1_1.1 > (x1_1.2.1.length : Int))) (some (((⟨#[]⟩ : ByteArray), ([] : List Int), 2))) ((cutO x1_1.2.1 0 x1_1.1).bind fun y4_2 => (cutO x1_1.2.1 x1_1.1 (x1_1.2.1.length : Int)).bind fun y4_6 => some (((strOfNums (cutL x1_1.2.1 ((0 : Int).toNat) ((x1_1.1 : Int).toNat))), (cutL x1_1.2.1 ((x1_1.1 : Int).toNat) (((x1_1.2.1.length : Int) : Int).toNat)), 0)))))
set_option maxRecDepth 100000 in
set_option maxHeartbeats 1000000 in
theorem code_TakeText.con (K : Nat) (a0 : List Int) (h0 : Hd) (r : (ByteArray × (List Int) × Int)) (X : Nat → Nat → Prop) (w : World) (hS : St X w [] [] [] [] [Rd (Kd.int .u8) h0.1 h0.2 a0] w) (H : code_TakeText.f K a0 = some r) :
    Cn Try.prog 24 [.slice h0.1 a0.length h0.2] X w [] (fun i : Hd => .tuple #[.string r.1, .slice i.1 r.2.1.length i.2, .int .i64 r.2.2]) (fun i => []) (fun i => []) (fun i => [Rd (Kd.int .u8) i.1 i.2 r.2.1]) := by
  refine Cn.of Try.func24 (by kernel_rfl) hS ?_
  unfold code_TakeText.f at H
  refine J.seq (by kernel_rfl) ?_
  refine J.region (by kernel_rfl) ?_
  refine O.pure 3 [] [0] [] (fr' := [(0, .slice h0.1 a0.length h0.2)]) (bx' := []) (by kernel_rfl) ?_
  refine O.nil (by kernel_rfl) ?_
  refine J.seq (by kernel_rfl) ?_
  obtain ⟨x1_1, hx1_1, H⟩ := bindE H
  refine J.region (by kernel_rfl) ?_
  refine O.pure 1 [] [9] [] (fr' := [(9, .slice h0.1 a0.length h0.2)]) (bx' := []) (by kernel_rfl) ?_
  refine O.e (some 10) (Ev.call0 (xs := [.tmp 9]) [0] (by kernel_rfl) (by kernel_rfl) (fun w hS => code_TakeNum.con K a0 h0  _ _ w hS hx1_1)) (by kernel_rfl) (fun p1_1 => ?_)
  refine O.pure 7 [] [5, 6, 7] [] (fr' := [(5, .int .i64 x1_1.1), (6, .slice p1_1.1 x1_1.2.1.length p1_1.2), (7, .int .i64 x1_1.2.2)]) (bx' := []) (by kernel_rfl) ?_
  refine O.nil (by kernel_rfl) ?_
  refine J.seq (by kernel_rfl) ?_
  refine J.seq (by kernel_rfl) ?_
  rcases condE H with ⟨hc1, H⟩ | ⟨hc1, H⟩
  · refine J.region (by kernel_rfl) ?_
    refine O.pure 1 [] [5, 6, 14] [] (fr' := [(5, .int .i64 x1_1.1), (6, .slice p1_1.1 x1_1.2.1.length p1_1.2), (14, .int .i64 x1_1.2.2)]) (bx' := []) (by kernel_rfl) ?_
    refine O.q (v := .bool true) (some 15) (Qu.eqv (u := .bool (x1_1.2.2 != 0)) (v := .bool true) (0, 0) [] (by kernel_rfl) (congrArg Value.bool hc1)) (by kernel_rfl) ?_
    refine O.pure 10 [] [5, 6, 25] [] (fr' := [(5, .int .i64 x1_1.1), (6, .slice p1_1.1 x1_1.2.1.length p1_1.2), (25, .bool true)]) (bx' := []) (by kernel_rfl) ?_
    refine O.nil (by kernel_rfl) ?_
    refine J.cond (o := .tmp 25) true (by kernel_rfl) (by kernel_rfl) ?_
    refine J.seq (by kernel_rfl) ?_
    refine J.region (by kernel_rfl) ?_
    refine O.pure 3 [] [2, 3, 4] [] (fr' := [(2, .string (⟨#[]⟩ : ByteArray)), (3, .slice none 0 0), (4, .int .i64 2)]) (bx' := []) (by kernel_rfl) ?_
    refine O.nil (by kernel_rfl) ?_
    obtain rfl := Option.some.inj H
    refine J.nilF (Kd.int .u8) ?_
    exact J.doneS [] [] [0] [] [] (none, 0) (vs := [.string (⟨#[]⟩ : ByteArray), .slice none 0 0, .int .i64 2]) (by kernel_rfl) (by kernel_rfl) (by kernel_rfl) (by kernel_rfl) (by kernel_rfl) (by decide)
  · rcases condE H with ⟨hc2, H⟩ | ⟨hc2, H⟩
    · refine J.region (by kernel_rfl) ?_
      refine O.pure 1 [] [5, 6, 14] [] (fr' := [(5, .int .i64 x1_1.1), (6, .slice p1_1.1 x1_1.2.1.length p1_1.2), (14, .int .i64 x1_1.2.2)]) (bx' := []) (by kernel_rfl) ?_
      refine O.q (v := .bool false) (some 15) (Qu.eqv (u := .bool (x1_1.2.2 != 0)) (v := .bool false) (0, 0) [] (by kernel_rfl) (congrArg Value.bool hc1)) (by kernel_rfl) ?_
      refine O.pure 2 [] [5, 6, 16, 17] [] (fr' := [(5, .int .i64 x1_1.1), (6, .slice p1_1.1 x1_1.2.1.length p1_1.2), (16, .bool false), (17, .int .i64 x1_1.1)]) (bx' := []) (by kernel_rfl) ?_
      refine O.q (v := .bool true) (some 18) (Qu.eqv (u := .bool (decide (x1_1.1 < 0))) (v := .bool true) (0, 0) [] (by kernel_rfl) (congrArg Value.bool hc2)) (by kernel_rfl) ?_
      refine O.pure 7 [] [5, 6, 25] [] (fr' := [(5, .int .i64 x1_1.1), (6, .slice p1_1.1 x1_1.2.1.length p1_1.2), (25, .bool true)]) (bx' := []) (by kernel_rfl) ?_
      refine O.nil (by kernel_rfl) ?_
      refine J.cond (o := .tmp 25) true (by kernel_rfl) (by kernel_rfl) ?_
      refine J.seq (by kernel_rfl) ?_
      refine J.region (by kernel_rfl) ?_
      refine O.pure 3 [] [2, 3, 4] [] (fr' := [(2, .string (⟨#[]⟩ : ByteArray)), (3, .slice none 0 0), (4, .int .i64 2)]) (bx' := []) (by kernel_rfl) ?_
      refine O.nil (by kernel_rfl) ?_
      obtain rfl := Option.some.inj H
      refine J.nilF (Kd.int .u8) ?_
      exact J.doneS [] [] [0] [] [] (none, 0) (vs := [.string (⟨#[]⟩ : ByteArray), .slice none 0 0, .int .i64 2]) (by kernel_rfl) (by kernel_rfl) (by kernel_rfl) (by kernel_rfl) (by kernel_rfl) (by decide)
    · refine J.region (by kernel_rfl) ?_
      refine O.pure 1 [] [5, 6, 14] [] (fr' := [(5, .int .i64 x1_1.1), (6, .slice p1_1.1 x1_1.2.1.length p1_1.2), (14, .int .i64 x1_1.2.2)]) (bx' := []) (by kernel_rfl) ?_
      refine O.q (v := .bool false) (some 15) (Qu.eqv (u := .bool (x1_1.2.2 != 0)) (v := .bool false) (0, 0) [] (by kernel_rfl) (congrArg Value.bool hc1)) (by kernel_rfl) ?_
      refine O.pure 2 [] [5, 6, 16, 17] [] (fr' := [(5, .int .i64 x1_1.1), (6, .slice p1_1.1 x1_1.2.1.length p1_1.2), (16, .bool false), (17, .int .i64 x1_1.1)]) (bx' := []) (by kernel_rfl) ?_
      refine O.q (v := .bool false) (some 18) (Qu.eqv (u := .bool (decide (x1_1.1 < 0))) (v := .bool false) (0, 0) [] (by kernel_rfl) (congrArg Value.bool hc2)) (by kernel_rfl) ?_
      refine O.pure 7 [] [5, 6, 25] [] (fr' := [(5, .int .i64 x1_1.1), (6, .slice p1_1.1 x1_1.2.1.length p1_1.2), (25, .bool (decide (x1_1.1 > (x1_1.2.1.length : Int))))]) (bx' := []) (by kernel_rfl) ?_
      refine O.nil (by kernel_rfl) ?_
      rcases condE H with ⟨hc3, H⟩ | ⟨hc3, H⟩
      · refine J.condT (x := .tmp 25) (t := (decide (x1_1.1 > (x1_1.2.1.length : Int)))) (by kernel_rfl) (by kernel_rfl) hc3 ?_
        refine J.seq (by kernel_rfl) ?_
        refine J.region (by kernel_rfl) ?_
        refine O.pure 3 [] [2, 3, 4] [] (fr' := [(2, .string (⟨#[]⟩ : ByteArray)), (3, .slice none 0 0), (4, .int .i64 2)]) (bx' := []) (by kernel_rfl) ?_
        refine O.nil (by kernel_rfl) ?_
        obtain rfl := Option.some.inj H
        refine J.nilF (Kd.int .u8) ?_
        exact J.doneS [] [] [0] [] [] (none, 0) (vs := [.string (⟨#[]⟩ : ByteArray), .slice none 0 0, .int .i64 2]) (by kernel_rfl) (by kernel_rfl) (by kernel_rfl) (by kernel_rfl) (by kernel_rfl) (by decide)
      · refine J.condF (x := .tmp 25) (t := (decide (x1_1.1 > (x1_1.2.1.length : Int)))) (by kernel_rfl) (by kernel_rfl) hc3 ?_
        refine J.skip (by kernel_rfl) ?_
        refine J.seq (by kernel_rfl) ?_
        obtain ⟨y4_2, hy4_2, H⟩ := bindE H
        obtain ⟨hy4_2a, hy4_2b, hy4_2c, -⟩ := cutE hy4_2
        obtain ⟨y4_6, hy4_6, H⟩ := bindE H
        obtain ⟨hy4_6a, hy4_6b, hy4_6c, -⟩ := cutE hy4_6
        refine J.cutAt (γ := Hd × Hd) (fun q_ => [(2, .string (strOfNums (cutL x1_1.2.1 ((0 : Int).toNat) ((x1_1.1 : Int).toNat)))), (3, .slice q_.2.1 (cutL x1_1.2.1 ((x1_1.1 : Int).toNat) (((x1_1.2.1.length : Int) : Int).toNat)).length q_.2.2), (4, .int .i64 0)]) (fun q_ => St X w [] [] [] [] [Rd (Kd.int .u8) q_.2.1 q_.2.2 (cutL x1_1.2.1 ((x1_1.1 : Int).toNat) (((x1_1.2.1.length : Int) : Int).toNat)), Rd (Kd.int .u8) q_.1.1 q_.1.2 (cutL x1_1.2.1 ((0 : Int).toNat) ((x1_1.1 : Int).toNat)), Rd (Kd.int .u8) p1_1.1 p1_1.2 x1_1.2.1, Rd (Kd.int .u8) h0.1 h0.2 a0]) (fun q_ => ?_) (fun hk_ => ?_)
        · obtain ⟨p4_2, p4_6⟩ := q_
          obtain rfl := Option.some.inj H
          exact J.doneS [] [] [0] [] [] p4_6 (vs := [.string (strOfNums (cutL x1_1.2.1 ((0 : Int).toNat) ((x1_1.1 : Int).toNat))), .slice p4_6.1 (cutL x1_1.2.1 ((x1_1.1 : Int).toNat) (((x1_1.2.1.length : Int) : Int).toNat)).length p4_6.2, .int .i64 0]) (by kernel_rfl) (by kernel_rfl) (by kernel_rfl) (by kernel_rfl) (by kernel_rfl) (by decide)
        · refine J.drawS (by kernel_rfl) [(0, some 26, .slice p1_1.1 x1_1.2.1.length p1_1.2), (1, some 27, .int .i64 x1_1.1), (4, some 30, .slice p1_1.1 x1_1.2.1.length p1_1.2), (5, some 31, .int .i64 x1_1.1)] ([0, 1, 4, 5] ++ []) (by kernel_rfl) ?_
          refine D.mid (cs := [2, 6]) [0, 1, 4, 5] [] [] [] (by kernel_rfl) (by kernel_rfl) trivial (by kernel_rfl) ⟨?_, ?_, trivial⟩
          · refine EvStep.mk (some 28) (new := fun p4_2 => [(3, some 29, .string (strOfNums (cutL x1_1.2.1 ((0 : Int).toNat) ((x1_1.1 : Int).toNat)))), (7, some 2, .string (strOfNums (cutL x1_1.2.1 ((0 : Int).toNat) ((x1_1.1 : Int).toNat))))]) ([4, 5, 7] ++ [3]) (by kernel_rfl) (Ev.mono (fun w hS => hS.freezeH (h := p1_1) (xs := x1_1.2.1)) (Ev.cut (d := (Kd.int .u8)) (xs := x1_1.2.1) (t := 22) (x := .tmp 26) (lo := none) (hi := (some (.tmp 27))) (vlo := none) (vhi := (some (.int .i64 x1_1.1))) (A := p1_1.1) (c := p1_1.2) (l := (0 : Int).toNat) (h := (x1_1.1 : Int).toNat) 0 (by kernel_rfl) (by kernel_rfl) (by kernel_rfl) (by kernel_rfl) (by kernel_rfl) (Bd.dflt _) (Bd.val _ _ _ (by omega)) (by omega) (by omega) rfl)) (fun p4_2 => by kernel_rfl) (fun p4_2 => ?_)
            refine D.mid (cs := [6]) [4, 5, 7] [3] [] [] (by kernel_rfl) (by kernel_rfl) (⟨QuAt.mk (v := .string (strOfNums (cutL x1_1.2.1 ((0 : Int).toNat) ((x1_1.1 : Int).toNat)))) (some 29) (by kernel_rfl) (by kernel_rfl) (Qu.str (t := 22) (u := 9) (x := .tmp 28) (h := p4_2) (xs := (cutL x1_1.2.1 ((0 : Int).toNat) ((x1_1.1 : Int).toNat))) 0 (by kernel_rfl) (by kernel_rfl) (by kernel_rfl) (by kernel_rfl) rfl), trivial⟩) (by kernel_rfl) ⟨?_, trivial⟩
            refine EvStep.mk (some 32) (new := fun p4_6 => [(8, some 3, .slice p4_6.1 (cutL x1_1.2.1 ((x1_1.1 : Int).toNat) (((x1_1.2.1.length : Int) : Int).toNat)).length p4_6.2), (9, some 4, .int .i64 0)]) ([7, 8, 9] ++ [3]) (by kernel_rfl) (Ev.cut (d := (Kd.int .u8)) (xs := x1_1.2.1) (t := 22) (x := .tmp 30) (lo := (some (.tmp 31))) (hi := none) (vlo := (some (.int .i64 x1_1.1))) (vhi := none) (A := p1_1.1) (c := p1_1.2) (l := (x1_1.1 : Int).toNat) (h := ((x1_1.2.1.length : Int) : Int).toNat) 1 (by kernel_rfl) (by kernel_rfl) (by kernel_rfl) (by kernel_rfl) (by kernel_rfl) (Bd.val _ _ _ (by omega)) (Bd.dflt _) (by omega) (by omega) rfl) (fun p4_6 => by kernel_rfl) (fun p4_6 => ?_)
            refine D.fin (fr' := [(2, .string (strOfNums (cutL x1_1.2.1 ((0 : Int).toNat) ((x1_1.1 : Int).toNat)))), (3, .slice p4_6.1 (cutL x1_1.2.1 ((x1_1.1 : Int).toNat) (((x1_1.2.1.length : Int) : Int).toNat)).length p4_6.2), (4, .int .i64 0)]) [7, 8, 9] [3] [] [] [2, 3, 4] (by kernel_rfl) (by kernel_rfl) (⟨QuAt.mk (v := .string (strOfNums (cutL x1_1.2.1 ((0 : Int).toNat) ((x1_1.1 : Int).toNat)))) (some 29) (by kernel_rfl) (by kernel_rfl) (Qu.str (t := 22) (u := 9) (x := .tmp 28) (h := p4_2) (xs := (cutL x1_1.2.1 ((0 : Int).toNat) ((x1_1.1 : Int).toNat))) 1 (by kernel_rfl) (by kernel_rfl) (by kernel_rfl) (by kernel_rfl) rfl), trivial⟩) (by kernel_rfl) ?_
            exact J.conv2 [2, 3, 4] [0, 1, 2, 3] [] [] (by kernel_rfl) (by kernel_rfl) (by kernel_rfl) (by kernel_rfl) (by decide) (hk_ (p4_2, p4_6))
          · refine EvStep.mk (some 32) (new := fun p4_6 => []) ([0, 1] ++ []) (by kernel_rfl) (Ev.mono (fun w hS => hS.freezeH (h := p1_1) (xs := x1_1.2.1)) (Ev.cut (d := (Kd.int .u8)) (xs := x1_1.2.1) (t := 22) (x := .tmp 30) (lo := (some (.tmp 31))) (hi := none) (vlo := (some (.int .i64 x1_1.1))) (vhi := none) (A := p1_1.1) (c := p1_1.2) (l := (x1_1.1 : Int).toNat) (h := ((x1_1.2.1.length : Int) : Int).toNat) 0 (by kernel_rfl) (by kernel_rfl) (by kernel_rfl) (by kernel_rfl) (by kernel_rfl) (Bd.val _ _ _ (by omega)) (Bd.dflt _) (by omega) (by omega) rfl)) (fun p4_6 => by kernel_rfl) (fun p4_6 => ?_)
            refine D.mid (cs := [2]) [0, 1] [] [] [] (by kernel_rfl) (by kernel_rfl) trivial (by kernel_rfl) ⟨?_, trivial⟩
            refine EvStep.mk (some 28) (new := fun p4_2 => [(3, some 29, .string (strOfNums (cutL x1_1.2.1 ((0 : Int).toNat) ((x1_1.1 : Int).toNat)))), (7, some 2, .string (strOfNums (cutL x1_1.2.1 ((0 : Int).toNat) ((x1_1.1 : Int).toNat)))), (8, some 3, .slice p4_6.1 (cutL x1_1.2.1 ((x1_1.1 : Int).toNat) (((x1_1.2.1.length : Int) : Int).toNat)).length p4_6.2), (9, some 4, .int .i64 0)]) ([7, 8, 9] ++ [3]) (by kernel_rfl) (Ev.cut (d := (Kd.int .u8)) (xs := x1_1.2.1) (t := 22) (x := .tmp 26) (lo := none) (hi := (some (.tmp 27))) (vlo := none) (vhi := (some (.int .i64 x1_1.1))) (A := p1_1.1) (c := p1_1.2) (l := (0 : Int).toNat) (h := (x1_1.1 : Int).toNat) 1 (by kernel_rfl) (by kernel_rfl) (by kernel_rfl) (by kernel_rfl) (by kernel_rfl) (Bd.dflt _) (Bd.val _ _ _ (by omega)) (by omega) (by omega) rfl) (fun p4_2 => by kernel_rfl) (fun p4_2 => ?_)
            refine D.fin (fr' := [(2, .string (strOfNums (cutL x1_1.2.1 ((0 : Int).toNat) ((x1_1.1 : Int).toNat)))), (3, .slice p4_6.1 (cutL x1_1.2.1 ((x1_1.1 : Int).toNat) (((x1_1.2.1.length : Int) : Int).toNat)).length p4_6.2), (4, .int .i64 0)]) [7, 8, 9] [3] [] [] [2, 3, 4] (by kernel_rfl) (by kernel_rfl) (⟨QuAt.mk (v := .string (strOfNums (cutL x1_1.2.1 ((0 : Int).toNat) ((x1_1.1 : Int).toNat)))) (some 29) (by kernel_rfl) (by kernel_rfl) (Qu.str (t := 22) (u := 9) (x := .tmp 28) (h := p4_2) (xs := (cutL x1_1.2.1 ((0 : Int).toNat) ((x1_1.1 : Int).toNat))) 0 (by kernel_rfl) (by kernel_rfl) (by kernel_rfl) (by kernel_rfl) rfl), trivial⟩) (by kernel_rfl) ?_
            exact J.conv2 [2, 3, 4] [1, 0, 2, 3] [] [] (by kernel_rfl) (by kernel_rfl) (by kernel_rfl) (by kernel_rfl) (by decide) (hk_ (p4_2, p4_6))
/-! ### haywain/haywainref02.TakeText: function 25 -/
def haywainref02_TakeText.f (K : Nat) (a0 : List Int) : Option (ByteArray × Int × Bool) := (haywainref02_TakeNum.f K a0).bind fun x1_1 => cond (!x1_1.2) (some (((⟨#[]⟩ : ByteArray), 0, false))) (cond (decide (x1_1.1 < 0)) (some (((⟨#[]⟩ : ByteArray), 0, false))) (cond (decide (x1_1.1 > (IntKind.wrap .i64 ((a0.length : Int) - 8)))) (some (((⟨#[]⟩ : ByteArray), 0, false))) ((cutO a0 8 (IntKind.wrap .i64 (8 + x1_1.1))).bind fun y4_3 => some (((strOfNums (cutL a0 ((8 : Int).toNat) (((IntKind.wrap .i64 (8 + x1_1.1)) : Int).toNat))), (IntKind.wrap .i64 (8 + x1_1.1)), true)))))
set_option maxRecDepth 100000 in
set_option maxHeartbeats 1000000 in
theorem haywainref02_TakeText.con (K : Nat) (a0 : List Int) (h0 : Hd) (r : (ByteArray × Int × Bool)) (X : Nat → Nat → Prop) (w : World) (hS : St X w [] [] [] [] [Rd (Kd.int .u8) h0.1 h0.2 a0] w) (H : haywainref02_TakeText.f K a0 = some r) :
    Cn Try.prog 25 [.slice h0.1 a0.length h0.2] X w [] (fun i : Unit => .tuple #[.string r.1, .int .i64 r.2.1, .bool r.2.2]) (fun i => []) (fun i => []) (fun i => []) := by
  refine Cn.of Try.func25 (by kernel_rfl) hS ?_
  unfold haywainref02_TakeText.f at H
  refine J.seq (by kernel_rfl) ?_
  refine J.region (by kernel_rfl) ?_
  refine O.pure 3 [] [0] [] (fr' := [(0, .slice h0.1 a0.length h0.2)]) (bx' := []) (by kernel_rfl) ?_
  refine O.nil (by kernel_rfl) ?_
  refine J.seq (by kernel_rfl) ?_
  obtain ⟨x1_1, hx1_1, H⟩ := bindE H
  refine J.region (by kernel_rfl) ?_
  refine O.pure 1 [] [0, 8] [] (fr' := [(0, .slice h0.1 a0.length h0.2), (8, .slice h0.1 a0.length h0.2)]) (bx' := []) (by kernel_rfl) ?_
  refine O.e (some 9) (Ev.call0 (xs := [.tmp 8]) [0] (by kernel_rfl) (by kernel_rfl) (fun w hS => haywainref02_TakeNum.con K a0 h0  _ _ w hS hx1_1)) (by kernel_rfl) (fun _ => ?_)
  refine O.pure 5 [] [0, 5, 6] [] (fr' := [(0, .slice h0.1 a0.length h0.2), (5, .int .i64 x1_1.1), (6, .bool x1_1.2)]) (bx' := []) (by kernel_rfl) ?_
  refine O.nil (by kernel_rfl) ?_
  refine J.seq (by kernel_rfl) ?_
  refine J.seq (by kernel_rfl) ?_
  rcases condE H with ⟨hc1, H⟩ | ⟨hc1, H⟩
  · refine J.region (by kernel_rfl) ?_
    refine O.pure 1 [] [0, 5, 12] [] (fr' := [(0, .slice h0.1 a0.length h0.2), (5, .int .i64 x1_1.1), (12, .bool x1_1.2)]) (bx' := []) (by kernel_rfl) ?_
    refine O.q (v := .bool true) (some 13) (Qu.eqv (u := .bool (!x1_1.2)) (v := .bool true) (0, 0) [] (by kernel_rfl) (congrArg Value.bool hc1)) (by kernel_rfl) ?_
    refine O.pure 11 [] [0, 5, 24] [] (fr' := [(0, .slice h0.1 a0.length h0.2), (5, .int .i64 x1_1.1), (24, .bool true)]) (bx' := []) (by kernel_rfl) ?_
    refine O.nil (by kernel_rfl) ?_
    refine J.cond (o := .tmp 24) true (by kernel_rfl) (by kernel_rfl) ?_
    refine J.seq (by kernel_rfl) ?_
    refine J.region (by kernel_rfl) ?_
    refine O.pure 3 [] [2, 3, 4] [] (fr' := [(2, .string (⟨#[]⟩ : ByteArray)), (3, .int .i64 0), (4, .bool false)]) (bx' := []) (by kernel_rfl) ?_
    refine O.nil (by kernel_rfl) ?_
    obtain rfl := Option.some.inj H
    exact J.doneS [] [] [] [] [] () (vs := [.string (⟨#[]⟩ : ByteArray), .int .i64 0, .bool false]) (by kernel_rfl) (by kernel_rfl) (by kernel_rfl) (by kernel_rfl) (by kernel_rfl) (by decide)
  · rcases condE H with ⟨hc2, H⟩ | ⟨hc2, H⟩
    · refine J.region (by kernel_rfl) ?_
      refine O.pure 1 [] [0, 5, 12] [] (fr' := [(0, .slice h0.1 a0.length h0.2), (5, .int .i64 x1_1.1), (12, .bool x1_1.2)]) (bx' := []) (by kernel_rfl) ?_
      refine O.q (v := .bool false) (some 13) (Qu.eqv (u := .bool (!x1_1.2)) (v := .bool false) (0, 0) [] (by kernel_rfl) (congrArg Value.bool hc1)) (by kernel_rfl) ?_
      refine O.pure 2 [] [0, 5, 14, 15] [] (fr' := [(0, .slice h0.1 a0.length h0.2), (5, .int .i64 x1_1.1), (14, .bool false), (15, .int .i64 x1_1.1)]) (bx' := []) (by kernel_rfl) ?_
      refine O.q (v := .bool true) (some 16) (Qu.eqv (u := .bool (decide (x1_1.1 < 0))) (v := .bool true) (0, 0) [] (by kernel_rfl) (congrArg Value.bool hc2)) (by kernel_rfl) ?_
      refine O.pure 8 [] [0, 5, 24] [] (fr' := [(0, .slice h0.1 a0.length h0.2), (5, .int .i64 x1_1.1), (24, .bool true)]) (bx' := []) (by kernel_rfl) ?_
      refine O.nil (by kernel_rfl) ?_
      refine J.cond (o := .tmp 24) true (by kernel_rfl) (by kernel_rfl) ?_
      refine J.seq (by kernel_rfl) ?_
      refine J.region (by kernel_rfl) ?_
      refine O.pure 3 [] [2, 3, 4] [] (fr' := [(2, .string (⟨#[]⟩ : ByteArray)), (3, .int .i64 0), (4, .bool false)]) (bx' := []) (by kernel_rfl) ?_
      refine O.nil (by kernel_rfl) ?_
      obtain rfl := Option.some.inj H
      exact J.doneS [] [] [] [] [] () (vs := [.string (⟨#[]⟩ : ByteArray), .int .i64 0, .bool false]) (by kernel_rfl) (by kernel_rfl) (by kernel_rfl) (by kernel_rfl) (by kernel_rfl) (by decide)
    · refine J.region (by kernel_rfl) ?_
      refine O.pure 1 [] [0, 5, 12] [] (fr' := [(0, .slice h0.1 a0.length h0.2), (5, .int .i64 x1_1.1), (12, .bool x1_1.2)]) (bx' := []) (by kernel_rfl) ?_
      refine O.q (v := .bool false) (some 13) (Qu.eqv (u := .bool (!x1_1.2)) (v := .bool false) (0, 0) [] (by kernel_rfl) (congrArg Value.bool hc1)) (by kernel_rfl) ?_
      refine O.pure 2 [] [0, 5, 14, 15] [] (fr' := [(0, .slice h0.1 a0.length h0.2), (5, .int .i64 x1_1.1), (14, .bool false), (15, .int .i64 x1_1.1)]) (bx' := []) (by kernel_rfl) ?_
      refine O.q (v := .bool false) (some 16) (Qu.eqv (u := .bool (decide (x1_1.1 < 0))) (v := .bool false) (0, 0) [] (by kernel_rfl) (congrArg Value.bool hc2)) (by kernel_rfl) ?_
      refine O.pure 8 [] [0, 5, 24] [] (fr' := [(0, .slice h0.1 a0.length h0.2), (5, .int .i64 x1_1.1), (24, .bool (decide (x1_1.1 > (IntKind.wrap .i64 ((a0.length : Int) - 8)))))]) (bx' := []) (by kernel_rfl) ?_
      refine O.nil (by kernel_rfl) ?_
      rcases condE H with ⟨hc3, H⟩ | ⟨hc3, H⟩
      · refine J.condT (x := .tmp 24) (t := (decide (x1_1.1 > (IntKind.wrap .i64 ((a0.length : Int) - 8))))) (by kernel_rfl) (by kernel_rfl) hc3 ?_
        refine J.seq (by kernel_rfl) ?_
        refine J.region (by kernel_rfl) ?_
        refine O.pure 3 [] [2, 3, 4] [] (fr' := [(2, .string (⟨#[]⟩ : ByteArray)), (3, .int .i64 0), (4, .bool false)]) (bx' := []) (by kernel_rfl) ?_
        refine O.nil (by kernel_rfl) ?_
        obtain rfl := Option.some.inj H
        exact J.doneS [] [] [] [] [] () (vs := [.string (⟨#[]⟩ : ByteArray), .int .i64 0, .bool false]) (by kernel_rfl) (by kernel_rfl) (by kernel_rfl) (by kernel_rfl) (by kernel_rfl) (by decide)
      · refine J.condF (x := .tmp 24) (t := (decide (x1_1.1 > (IntKind.wrap .i64 ((a0.length : Int) - 8))))) (by kernel_rfl) (by kernel_rfl) hc3 ?_
        refine J.skip (by kernel_rfl) ?_
        refine J.seq (by kernel_rfl) ?_
        obtain ⟨y4_3, hy4_3, H⟩ := bindE H
        obtain ⟨hy4_3a, hy4_3b, hy4_3c, -⟩ := cutE hy4_3
        refine J.region (by kernel_rfl) ?_
        refine O.pure 3 [] [5, 25, 27] [] (fr' := [(5, .int .i64 x1_1.1), (25, .slice h0.1 a0.length h0.2), (27, .int .i64 (IntKind.wrap .i64 (8 + x1_1.1)))]) (bx' := []) (by kernel_rfl) ?_
        refine O.e (some 28) (Ev.cut (d := (Kd.int .u8)) (xs := a0) (t := 22) (x := .tmp 25) (lo := (some (.const (.int .i64 8)))) (hi := (some (.tmp 27))) (vlo := (some (.int .i64 8))) (vhi := (some (.int .i64 (IntKind.wrap .i64 (8 + x1_1.1))))) (A := h0.1) (c := h0.2) (l := (8 : Int).toNat) (h := ((IntKind.wrap .i64 (8 + x1_1.1)) : Int).toNat) 0 (by kernel_rfl) (by kernel_rfl) (by kernel_rfl) (by kernel_rfl) (by kernel_rfl) (Bd.val _ _ _ (by omega)) (Bd.val _ _ _ (by omega)) (by omega) (by omega) rfl) (by kernel_rfl) (fun p4_3 => ?_)
        refine O.q (v := .string (strOfNums (cutL a0 ((8 : Int).toNat) (((IntKind.wrap .i64 (8 + x1_1.1)) : Int).toNat)))) (some 29) (Qu.str (t := 22) (u := 9) (x := .tmp 28) (h := p4_3) (xs := (cutL a0 ((8 : Int).toNat) (((IntKind.wrap .i64 (8 + x1_1.1)) : Int).toNat))) 0 (by kernel_rfl) (by kernel_rfl) (by kernel_rfl) (by kernel_rfl) rfl) (by kernel_rfl) ?_
        refine O.pure 5 [] [2, 3, 4] [] (fr' := [(2, .string (strOfNums (cutL a0 ((8 : Int).toNat) (((IntKind.wrap .i64 (8 + x1_1.1)) : Int).toNat)))), (3, .int .i64 (IntKind.wrap .i64 (8 + x1_1.1))), (4, .bool true)]) (bx' := []) (by kernel_rfl) ?_
        refine O.nil (by kernel_rfl) ?_
        obtain rfl := Option.some.inj H
        exact J.doneS [] [] [] [] [] () (vs := [.string (strOfNums (cutL a0 ((8 : Int).toNat) (((IntKind.wrap .i64 (8 + x1_1.1)) : Int).toNat))), .int .i64 (IntKind.wrap .i64 (8 + x1_1.1)), .bool true]) (by kernel_rfl) (by kernel_rfl) (by kernel_rfl) (by kernel_rfl) (by kernel_rfl) (by decide)
end Go.Proofs.Ytpachjomjoaipaa.G
