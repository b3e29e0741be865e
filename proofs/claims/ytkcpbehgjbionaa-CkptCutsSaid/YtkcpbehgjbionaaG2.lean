/- Functions of the program as plain Lean, with their contracts (part 2); printed by a program of this session. -/
import Derived.Test.YtkcpbehgjbionaaG1
set_option linter.unusedVariables false
set_option linter.unusedSimpArgs false
namespace Go.Proofs.Ytkcpbehgjbionaa.G
open Go Go.RowKit Go.Hw
/-! ### haywain/haywainref14.File: function 15 -/
def haywainref14_File.f (K : Nat) (a0 : Int) : Option ByteArray := cond (decide (a0 < 1)) (some ((⟨#[]⟩ : ByteArray))) (cond (decide (a0 > 1099511627776)) (some ((⟨#[]⟩ : ByteArray))) ((haywainref03_Digits.f K a0).bind fun x3_1 => (catO (⟨#[99]⟩ : ByteArray) x3_1).bind fun z3_2 => some (((⟨#[99]⟩ : ByteArray) ++ x3_1))))
set_option maxRecDepth 100000 in
set_option maxHeartbeats 1000000 in
theorem haywainref14_File.con (K : Nat) (a0 : Int) (r : ByteArray) (X : Nat → Nat → Prop) (w : World) (hS : St X w [] [] [] [] [] w) (H : haywainref14_File.f K a0 = some r) :
    Cn Try.prog 15 [.int .i64 a0] X w [] (fun i : Unit => .string r) (fun i => []) (fun i => []) (fun i => []) := by
 refine Cn.of Try.func15 (by kernel_rfl) hS ?_
 unfold haywainref14_File.f at H
 refine J.seq (by kernel_rfl) ?_
 refine J.region (by kernel_rfl) ?_
 refine O.pure 1 [] [0] [] (fr' := [(0, .int .i64 a0)]) (bx' := []) (by kernel_rfl) ?_
 refine O.nil (by kernel_rfl) ?_
 refine J.seq (by kernel_rfl) ?_
 refine J.seq (by kernel_rfl) ?_
 rcases condE H with ⟨hc1, H⟩ | ⟨hc1, H⟩
 ·refine J.region (by kernel_rfl) ?_
  refine O.pure 1 [] [0, 3] [] (fr' := [(0, .int .i64 a0), (3, .int .i64 a0)]) (bx' := []) (by kernel_rfl) ?_
  refine O.q (v := .bool true) (some 4) (Qu.eqv (u := .bool (decide (a0 < 1))) (v := .bool true) (0, 0) [] (by kernel_rfl) (congrArg Value.bool hc1)) (by kernel_rfl) ?_
  refine O.pure 4 [] [0, 8] [] (fr' := [(0, .int .i64 a0), (8, .bool true)]) (bx' := []) (by kernel_rfl) ?_
  refine O.nil (by kernel_rfl) ?_
  refine J.cond (o := .tmp 8) true (by kernel_rfl) (by kernel_rfl) ?_
  refine J.seq (by kernel_rfl) ?_
  refine J.region (by kernel_rfl) ?_
  refine O.pure 1 [] [2] [] (fr' := [(2, .string (⟨#[]⟩ : ByteArray))]) (bx' := []) (by kernel_rfl) ?_
  refine O.nil (by kernel_rfl) ?_
  obtain rfl := Option.some.inj H
  exact J.doneS [] [] [] [] [] () (vs := [.string (⟨#[]⟩ : ByteArray)]) (by kernel_rfl) (by kernel_rfl) (by kernel_rfl) (by kernel_rfl) (by kernel_rfl) (by decide)
 ·refine J.region (by kernel_rfl) ?_
  refine O.pure 1 [] [0, 3] [] (fr' := [(0, .int .i64 a0), (3, .int .i64 a0)]) (bx' := []) (by kernel_rfl) ?_
  refine O.q (v := .bool false) (some 4) (Qu.eqv (u := .bool (decide (a0 < 1))) (v := .bool false) (0, 0) [] (by kernel_rfl) (congrArg Value.bool hc1)) (by kernel_rfl) ?_
  refine O.pure 4 [] [0, 8] [] (fr' := [(0, .int .i64 a0), (8, .bool (decide (a0 > 1099511627776)))]) (bx' := []) (by kernel_rfl) ?_
  refine O.nil (by kernel_rfl) ?_
  rcases condE H with ⟨hc2, H⟩ | ⟨hc2, H⟩
  ·refine J.condT (x := .tmp 8) (t := (decide (a0 > 1099511627776))) (by kernel_rfl) (by kernel_rfl) hc2 ?_
   refine J.seq (by kernel_rfl) ?_
   refine J.region (by kernel_rfl) ?_
   refine O.pure 1 [] [2] [] (fr' := [(2, .string (⟨#[]⟩ : ByteArray))]) (bx' := []) (by kernel_rfl) ?_
   refine O.nil (by kernel_rfl) ?_
   obtain rfl := Option.some.inj H
   exact J.doneS [] [] [] [] [] () (vs := [.string (⟨#[]⟩ : ByteArray)]) (by kernel_rfl) (by kernel_rfl) (by kernel_rfl) (by kernel_rfl) (by kernel_rfl) (by decide)
  ·refine J.condF (x := .tmp 8) (t := (decide (a0 > 1099511627776))) (by kernel_rfl) (by kernel_rfl) hc2 ?_
   refine J.skip (by kernel_rfl) ?_
   refine J.seq (by kernel_rfl) ?_
   obtain ⟨x3_1, hx3_1, H⟩ := bindE H
   obtain ⟨z3_2, hz3_2, H⟩ := bindE H
   have hz3_2a := catE hz3_2
   refine J.region (by kernel_rfl) ?_
   refine O.pure 1 [] [9] [] (fr' := [(9, .int .i64 a0)]) (bx' := []) (by kernel_rfl) ?_
   refine O.e (some 10) (Ev.call0 (xs := [.tmp 9]) [] (by kernel_rfl) (by kernel_rfl) (fun w hS => haywainref03_Digits.con K a0  _ _ w hS hx3_1)) (by kernel_rfl) (fun _ => ?_)
   refine O.q (v := .string ((⟨#[99]⟩ : ByteArray) ++ x3_1)) (some 11) (Qu.cat (t := 9) (t' := 9) (x := .const (.string (⟨#[99]⟩ : ByteArray))) (y := .tmp 10) (a := (⟨#[99]⟩ : ByteArray)) (b := x3_1) (by kernel_rfl) (by kernel_rfl) (by kernel_rfl) hz3_2a) (by kernel_rfl) ?_
   refine O.pure 1 [] [2] [] (fr' := [(2, .string ((⟨#[99]⟩ : ByteArray) ++ x3_1))]) (bx' := []) (by kernel_rfl) ?_
   refine O.nil (by kernel_rfl) ?_
   obtain rfl := Option.some.inj H
   exact J.doneS [] [] [] [] [] () (vs := [.string ((⟨#[99]⟩ : ByteArray) ++ x3_1)]) (by kernel_rfl) (by kernel_rfl) (by kernel_rfl) (by kernel_rfl) (by kernel_rfl) (by decide)
end Go.Proofs.Ytkcpbehgjbionaa.G
