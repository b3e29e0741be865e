/- Functions of the program as plain Lean, with their contracts (part 1); printed by a program of this session. -/
import Derived.Test.YtkcpbehgjbionaaG0
set_option linter.unusedVariables false
set_option linter.unusedSimpArgs false
namespace Go.Proofs.Ytkcpbehgjbionaa.G
open Go Go.RowKit Go.Hw
/-! ### haywain/disk.Put$1: function 56 -/
def disk_Put_1_f56.f (K : Nat) (a0 : S70) (c_0 : ByteArray) : Option Bool := some ((!((Op.bytesLess a0.f0.toList c_0.toList) || (a0.f0.toList == c_0.toList))))
set_option maxRecDepth 100000 in
set_option maxHeartbeats 1000000 in
theorem disk_Put_1_f56.con (K : Nat) (a0 : S70) (c_0 : ByteArray) (gc_0 : Nat) (h0 : Hd) (r : Bool) (X : Nat → Nat → Prop) (w : World) (hS : St X w [] [] [] [] [Rd (Kd.int .u8) h0.1 h0.2 a0.f1, RowAt (gc_0, 0, [.string c_0])] w) (H : disk_Put_1_f56.f K a0 c_0 = some r) :
    Cn Try.prog 56 [.agg #[.string a0.f0, .slice h0.1 a0.f1.length h0.2, .int .i64 a0.f2], .pointer (some ⟨gc_0, 0, none⟩)] X w [] (fun i : Unit => .bool r) (fun i => []) (fun i => []) (fun i => []) := by
 refine Cn.of Try.func56 (by kernel_rfl) hS ?_
 unfold disk_Put_1_f56.f at H
 refine J.mono (fun w hS => hS.roF 1 rfl) ?_
 refine J.seq (by kernel_rfl) ?_
 refine J.region (by kernel_rfl) ?_
 refine O.e (some 2) (Ev.box (t := 70) (x := .tmp 0) (v := .agg #[.string a0.f0, .slice h0.1 a0.f1.length h0.2, .int .i64 a0.f2]) (by kernel_rfl) (by kernel_rfl)) (by kernel_rfl) (fun p0_0 => ?_)
 refine O.pure 1 [] [1, 2] [] (fr' := [(1, .pointer (some ⟨gc_0, 0, none⟩)), (2, .pointer (some ⟨p0_0, 0, none⟩))]) (bx' := [⟨p0_0, [.string a0.f0, .slice h0.1 a0.f1.length h0.2, .int .i64 a0.f2], 70⟩]) (by kernel_rfl) ?_
 refine O.nil (by kernel_rfl) ?_
 refine J.seq (by kernel_rfl) ?_
 refine J.region (by kernel_rfl) ?_
 refine O.pure 5 [(0, 0), (1, 0)] [3] [p0_0, 0, gc_0, 0] (fr' := [(3, .bool (!((Op.bytesLess a0.f0.toList c_0.toList) || (a0.f0.toList == c_0.toList))))]) (bx' := [⟨p0_0, [.string a0.f0, .slice h0.1 a0.f1.length h0.2, .int .i64 a0.f2], 70⟩]) (by kernel_rfl) ?_
 refine O.nil (by kernel_rfl) ?_
 obtain rfl := Option.some.inj H
 exact J.doneS [] [] [] [] [] () (vs := [.bool (!((Op.bytesLess a0.f0.toList c_0.toList) || (a0.f0.toList == c_0.toList)))]) (by kernel_rfl) (by kernel_rfl) (by kernel_rfl) (by kernel_rfl) (by kernel_rfl) (by decide)
/-! ### haywain/disk.find: function 55 -/
def disk_find_f56.l1 (K : Nat) (a0 : S24) (c1_0 : ByteArray) : Nat → Int → Option Int
  | 0, _ => none
  | k + 1, s1 => cond (decide (s1 < (a0.f0.length : Int))) ((idxO a0.f0 s1).bind fun x3_1 => (disk_Put_1_f56.f K x3_1 c1_0).bind fun x4_2 => cond x4_2 (some (s1)) (disk_find_f56.l1 K a0 c1_0 k (IntKind.wrap .i64 (s1 + 1)))) (some ((-1)))
def disk_find_f56.f (K : Nat) (a0 : S24) (c1_0 : ByteArray) : Option Int := disk_find_f56.l1 K a0 c1_0 K 0
set_option maxRecDepth 100000 in
set_option maxHeartbeats 1000000 in
theorem disk_find_f56.con (K : Nat) (a0 : S24) (c1_0 : ByteArray) (gc1_0 : Nat) (h0 : Hd) (r : Int) (X : Nat → Nat → Prop) (w : World) (hS : St X w [] [] [] [] [Rd kd70 h0.1 h0.2 a0.f0, RowAt (gc1_0, 0, [.string c1_0])] w) (H : disk_find_f56.f K a0 c1_0 = some r) :
    Cn Try.prog 55 [.agg #[.slice h0.1 a0.f0.length h0.2], .func (.func 56) #[] #[.pointer (some ⟨gc1_0, 0, none⟩)]] X w [] (fun i : Unit => .int .i64 r) (fun i => []) (fun i => []) (fun i => []) := by
 refine Cn.of Try.func55 (by kernel_rfl) hS ?_
 unfold disk_find_f56.f at H
 refine J.seq (by kernel_rfl) ?_
 refine J.region (by kernel_rfl) ?_
 refine O.e (some 2) (Ev.box (t := 24) (x := .tmp 0) (v := .agg #[.slice h0.1 a0.f0.length h0.2]) (by kernel_rfl) (by kernel_rfl)) (by kernel_rfl) (fun p0_0 => ?_)
 refine O.pure 1 [] [1, 2] [] (fr' := [(1, .func (.func 56) #[] #[.pointer (some ⟨gc1_0, 0, none⟩)]), (2, .pointer (some ⟨p0_0, 0, none⟩))]) (bx' := [⟨p0_0, [.slice h0.1 a0.f0.length h0.2], 24⟩]) (by kernel_rfl) ?_
 refine O.nil (by kernel_rfl) ?_
 refine J.seq (by kernel_rfl) ?_
 refine J.seq (by kernel_rfl) ?_
 refine J.region (by kernel_rfl) ?_
 refine O.pure 4 [(0, 0)] [1, 8, 9, 10] [p0_0, 0] (fr' := [(1, .func (.func 56) #[] #[.pointer (some ⟨gc1_0, 0, none⟩)]), (8, .slice h0.1 a0.f0.length h0.2), (9, .int .i64 (a0.f0.length : Int)), (10, .int .i64 0)]) (bx' := [⟨p0_0, [.slice h0.1 a0.f0.length h0.2], 24⟩]) (by kernel_rfl) ?_
 refine O.nil (by kernel_rfl) ?_
 refine J.block (id := 0) (by kernel_rfl) ?_
 refine J.loopI (σ := Int) (γ := Unit) (f := fun m_ s_ => disk_find_f56.l1 K a0 c1_0 m_ s_) (fun s1 g1 => [(1, .func (.func 56) #[] #[.pointer (some ⟨gc1_0, 0, none⟩)]), (8, .slice h0.1 a0.f0.length h0.2), (9, .int .i64 (a0.f0.length : Int)), (10, .int .i64 s1)]) (fun s1 g1 => St X w [] [] [] [] [Rd kd70 h0.1 h0.2 a0.f0, RowAt (gc1_0, 0, [.string c1_0])]) K 0 () (by kernel_rfl) H (fun _ => rfl) (fun m_ s1 H ih1 g1 => ?_) (fun h_ => ?_)
 ·unfold disk_find_f56.l1 at H
  refine J.seq (by kernel_rfl) ?_
  refine J.region (by kernel_rfl) ?_
  refine O.pure 1 [] [1, 8, 9, 10, 11] [] (fr' := [(1, .func (.func 56) #[] #[.pointer (some ⟨gc1_0, 0, none⟩)]), (8, .slice h0.1 a0.f0.length h0.2), (9, .int .i64 (a0.f0.length : Int)), (10, .int .i64 s1), (11, .bool (decide (s1 < (a0.f0.length : Int))))]) (bx' := []) (by kernel_rfl) ?_
  refine O.nil (by kernel_rfl) ?_
  refine J.seq (by kernel_rfl) ?_
  rcases condE H with ⟨hc6, H⟩ | ⟨hc6, H⟩
  ·refine J.condT (x := .tmp 11) (t := (decide (s1 < (a0.f0.length : Int)))) (by kernel_rfl) (by kernel_rfl) hc6 ?_
   refine J.skip (by kernel_rfl) ?_
   refine J.seq (by kernel_rfl) ?_
   refine J.block (id := 1) (by kernel_rfl) ?_
   refine J.seq (by kernel_rfl) ?_
   obtain ⟨x3_1, hx3_1, H⟩ := bindE H
   obtain ⟨hx3_1a, hx3_1⟩ := idxE hx3_1
   refine J.region (by kernel_rfl) ?_
   refine O.pure 1 [] [1, 8, 9, 10, 12] [] (fr' := [(1, .func (.func 56) #[] #[.pointer (some ⟨gc1_0, 0, none⟩)]), (8, .slice h0.1 a0.f0.length h0.2), (9, .int .i64 (a0.f0.length : Int)), (10, .int .i64 s1), (12, .int .i64 s1)]) (bx' := []) (by kernel_rfl) ?_
   refine O.open (d := kd70) (h := h0) (i := s1) 0 rfl hx3_1 (op70 _) (fun p3_1 hp3_1A => ?_)
   refine O.q (v := .pointer (some ⟨p3_1.1, p3_1.2.1 + s1.toNat * 3, none⟩)) (some 13) (Qu.idx (t := 22) (x := .tmp 8) (y := .tmp 10) (c := h0.2) (kk := .i64) (sz := 3) (by kernel_rfl) (by kernel_rfl) (by kernel_rfl) (by kernel_rfl) hx3_1a (idx_lt hx3_1) hp3_1A) (by kernel_rfl) ?_
   refine O.pure 1 [(0, 0)] [1, 8, 9, 10, 12, 14] [p3_1.1, p3_1.2.1 + s1.toNat * 3] (fr' := [(1, .func (.func 56) #[] #[.pointer (some ⟨gc1_0, 0, none⟩)]), (8, .slice h0.1 a0.f0.length h0.2), (9, .int .i64 (a0.f0.length : Int)), (10, .int .i64 s1), (12, .int .i64 s1), (14, .agg #[.string x3_1.f0, .slice p3_1.2.2.1 x3_1.f1.length p3_1.2.2.2, .int .i64 x3_1.f2])]) (bx' := []) (by kernel_rfl) ?_
   refine O.e (some 6) (Ev.alloc (t := 70) (z := .agg #[.string (⟨#[]⟩ : ByteArray), .slice none 0 0, .int .i64 0]) (by kernel_rfl) (by kernel_rfl)) (by kernel_rfl) (fun p3_3 => ?_)
   refine O.pure 2 [(0, 0)] [1, 5, 6, 8, 9, 10] [p3_3, 0] (fr' := [(1, .func (.func 56) #[] #[.pointer (some ⟨gc1_0, 0, none⟩)]), (5, .int .i64 s1), (6, .pointer (some ⟨p3_3, 0, none⟩)), (8, .slice h0.1 a0.f0.length h0.2), (9, .int .i64 (a0.f0.length : Int)), (10, .int .i64 s1)]) (bx' := [⟨p3_3, [.string x3_1.f0, .slice p3_1.2.2.1 x3_1.f1.length p3_1.2.2.2, .int .i64 x3_1.f2], 70⟩]) (by kernel_rfl) ?_
   refine O.nil (by kernel_rfl) ?_
   refine J.seq (by kernel_rfl) ?_
   obtain ⟨x4_2, hx4_2, H⟩ := bindE H
   refine J.region (by kernel_rfl) ?_
   refine O.pure 2 [(0, 0)] [1, 5, 8, 9, 10, 15, 16] [p3_3, 0] (fr' := [(1, .func (.func 56) #[] #[.pointer (some ⟨gc1_0, 0, none⟩)]), (5, .int .i64 s1), (8, .slice h0.1 a0.f0.length h0.2), (9, .int .i64 (a0.f0.length : Int)), (10, .int .i64 s1), (15, .func (.func 56) #[] #[.pointer (some ⟨gc1_0, 0, none⟩)]), (16, .agg #[.string x3_1.f0, .slice p3_1.2.2.1 x3_1.f1.length p3_1.2.2.2, .int .i64 x3_1.f2])]) (bx' := [⟨p3_3, [.string x3_1.f0, .slice p3_1.2.2.1 x3_1.f1.length p3_1.2.2.2, .int .i64 x3_1.f2], 70⟩]) (by kernel_rfl) ?_
   refine O.e (some 17) (Ev.callF (g := 56) (caps := [.pointer (some ⟨gc1_0, 0, none⟩)]) (vs := [.agg #[.string x3_1.f0, .slice p3_1.2.2.1 x3_1.f1.length p3_1.2.2.2, .int .i64 x3_1.f2]]) (xs := [.tmp 16]) [0, 2] (by kernel_rfl) (by kernel_rfl) (fun w hS => disk_Put_1_f56.con K x3_1 c1_0 gc1_0 p3_1.2.2  _ _ w hS hx4_2)) (by kernel_rfl) (fun _ => ?_)
   refine O.nil (by kernel_rfl) ?_
   rcases condE H with ⟨hc7, H⟩ | ⟨hc7, H⟩
   ·refine J.condT (x := .tmp 17) (t := x4_2) (by kernel_rfl) (by kernel_rfl) hc7 ?_
    refine J.seq (by kernel_rfl) ?_
    refine J.region (by kernel_rfl) ?_
    refine O.pure 2 [] [4] [] (fr' := [(4, .int .i64 s1)]) (bx' := [⟨p3_3, [.string x3_1.f0, .slice p3_1.2.2.1 x3_1.f1.length p3_1.2.2.2, .int .i64 x3_1.f2], 70⟩]) (by kernel_rfl) ?_
    refine O.nil (by kernel_rfl) ?_
    obtain rfl := Option.some.inj H
    exact J.doneS [] [] [] [] [] () (vs := [.int .i64 s1]) (by kernel_rfl) (by kernel_rfl) (by kernel_rfl) (by kernel_rfl) (by kernel_rfl) (by decide)
   ·refine J.condF (x := .tmp 17) (t := x4_2) (by kernel_rfl) (by kernel_rfl) hc7 ?_
    refine J.skip (by kernel_rfl) ?_
    refine J.out ?_
    refine J.region (by kernel_rfl) ?_
    refine O.pure 2 [] [1, 8, 9, 10] [] (fr' := [(1, .func (.func 56) #[] #[.pointer (some ⟨gc1_0, 0, none⟩)]), (8, .slice h0.1 a0.f0.length h0.2), (9, .int .i64 (a0.f0.length : Int)), (10, .int .i64 (IntKind.wrap .i64 (s1 + 1)))]) (bx' := [⟨p3_3, [.string x3_1.f0, .slice p3_1.2.2.1 x3_1.f1.length p3_1.2.2.2, .int .i64 x3_1.f2], 70⟩]) (by kernel_rfl) ?_
    refine O.nil (by kernel_rfl) ?_
    exact J.conv2 [1, 8, 9, 10] [1, 2] [] [] (by kernel_rfl) (by kernel_rfl) (by kernel_rfl) (by kernel_rfl) (by decide) (ih1 (IntKind.wrap .i64 (s1 + 1)) () H)
  ·refine J.condF (x := .tmp 11) (t := (decide (s1 < (a0.f0.length : Int)))) (by kernel_rfl) (by kernel_rfl) hc6 ?_
   refine J.exit (id := 0) (by kernel_rfl) rfl ?_
   refine J.seq (by kernel_rfl) ?_
   refine J.region (by kernel_rfl) ?_
   refine O.pure 1 [] [4] [] (fr' := [(4, .int .i64 (-1))]) (bx' := []) (by kernel_rfl) ?_
   refine O.nil (by kernel_rfl) ?_
   obtain rfl := Option.some.inj H
   exact J.doneS [] [] [] [] [] () (vs := [.int .i64 (-1)]) (by kernel_rfl) (by kernel_rfl) (by kernel_rfl) (by kernel_rfl) (by kernel_rfl) (by decide)
 ·exact J.conv2 [1, 8, 9, 10] [0, 1] [] [] (by kernel_rfl) (by kernel_rfl) (by kernel_rfl) (by kernel_rfl) (by decide) h_
/-! ### haywain/disk.Put: function 29 -/
def disk_Put.f (K : Nat) (a0 : S24) (a1 : ByteArray) (a2 : List Int) : Option (S24 × Int) := (disk_own.f K a0).bind fun x1_1 => (disk_named.f K a1).bind fun x2_1 => cond (!x2_1) (some ((x1_1, 1))) ((disk_at.f K x1_1 a1).bind fun x4_2 => cond (decide (x4_2 < 0)) ((cond ((x1_1.f0.length : Int) == 40) (some (((x1_1.f0.length : Int) == 40))) (cond (decide ((a2.length : Int) > 20000)) (some ((decide ((a2.length : Int) > 20000)))) (cond (decide (x4_2 ≥ 0)) ((idxO x1_1.f0 x4_2).bind fun x7_6 => some ((decide ((x7_6.f1.length : Int) > (IntKind.wrap .i64 (20000 - (a2.length : Int))))))) (some (false)))) : Option Bool).bind fun o3 : Bool => cond o3 (some ((x1_1, 3))) ((disk_find_f56.f K x1_1 a1).bind fun x10_2 => (cond (decide (x10_2 < 0)) (some ((x1_1.f0.length : Int))) (some (x10_2)) : Option Int).bind fun o8 : Int => (cutO x1_1.f0 o8 (x1_1.f0.length : Int)).bind fun y13_4 => (appO 48 ([] : List S70) (cutL x1_1.f0 ((o8 : Int).toNat) (((x1_1.f0.length : Int) : Int).toNat))).bind fun y13_5 => (cutO x1_1.f0 0 o8).bind fun y14_4 => (appO 48 (cutL x1_1.f0 ((0 : Int).toNat) ((o8 : Int).toNat)) ([(⟨a1, ([] : List Int), 0⟩ : S70)] : List S70)).bind fun y14_8 => (appO 48 ((cutL x1_1.f0 ((0 : Int).toNat) ((o8 : Int).toNat)) ++ ([(⟨a1, ([] : List Int), 0⟩ : S70)] : List S70)) (([] : List S70) ++ (cutL x1_1.f0 ((o8 : Int).toNat) (((x1_1.f0.length : Int) : Int).toNat)))).bind fun y14_10 => (idxO (((cutL x1_1.f0 ((0 : Int).toNat) ((o8 : Int).toNat)) ++ ([(⟨a1, ([] : List Int), 0⟩ : S70)] : List S70)) ++ (([] : List S70) ++ (cutL x1_1.f0 ((o8 : Int).toNat) (((x1_1.f0.length : Int) : Int).toNat)))) o8).bind fun x15_6 => (appO 1 x15_6.f1 a2).bind fun y15_10 => (sepO (fun x : S70 => x.f0.toList) (((cutL x1_1.f0 ((0 : Int).toNat) ((o8 : Int).toNat)) ++ ([(⟨a1, ([] : List Int), 0⟩ : S70)] : List S70)) ++ (([] : List S70) ++ (cutL x1_1.f0 ((o8 : Int).toNat) (((x1_1.f0.length : Int) : Int).toNat)))) o8).bind fun z15_10 => some (((⟨((((cutL x1_1.f0 ((0 : Int).toNat) ((o8 : Int).toNat)) ++ ([(⟨a1, ([] : List Int), 0⟩ : S70)] : List S70)) ++ (([] : List S70) ++ (cutL x1_1.f0 ((o8 : Int).toNat) (((x1_1.f0.length : Int) : Int).toNat)))).set o8.toNat (⟨x15_6.f0, (x15_6.f1 ++ a2), x15_6.f2⟩ : S70))⟩ : S24), 0)))) ((cond (decide ((a2.length : Int) > 20000)) (some ((decide ((a2.length : Int) > 20000)))) (cond (decide (x4_2 ≥ 0)) ((idxO x1_1.f0 x4_2).bind fun x7_6 => some ((decide ((x7_6.f1.length : Int) > (IntKind.wrap .i64 (20000 - (a2.length : Int))))))) (some (false))) : Option Bool).bind fun o14 : Bool => cond o14 (some ((x1_1, 3))) ((idxO x1_1.f0 x4_2).bind fun x15_6 => (appO 1 x15_6.f1 a2).bind fun y15_10 => (sepO (fun x : S70 => x.f0.toList) x1_1.f0 x4_2).bind fun z15_10 => some (((⟨(x1_1.f0.set x4_2.toNat (⟨x15_6.f0, (x15_6.f1 ++ a2), x15_6.f2⟩ : S70))⟩ : S24), 0)))))
set_option maxRecDepth 100000 in
set_option maxHeartbeats 1000000 in
theorem disk_Put.con (K : Nat) (a0 : S24) (a1 : ByteArray) (a2 : List Int) (h0 : Hd) (h1 : Hd) (r : (S24 × Int)) (X : Nat → Nat → Prop) (w : World) (hS : St X w [] [] [] [] [Rd kd70 h0.1 h0.2 a0.f0, Rd (Kd.int .u8) h1.1 h1.2 a2] w) (H : disk_Put.f K a0 a1 a2 = some r) :
    Cn Try.prog 29 [.agg #[.slice h0.1 a0.f0.length h0.2], .string a1, .slice h1.1 a2.length h1.2] X w [] (fun i : Hd => .tuple #[.agg #[.slice i.1 r.1.f0.length i.2], .int .i64 r.2]) (fun i => []) (fun i => [mkRow kd70 70 (.slice i.1 r.1.f0.length i.2) r.1.f0]) (fun i => []) := by
 refine Cn.of Try.func29 (by kernel_rfl) hS ?_
 unfold disk_Put.f at H
 have hSe_ := hS
 refine J.seq (by kernel_rfl) ?_
 refine J.region (by kernel_rfl) ?_
 refine O.e (some 3) (Ev.box (t := 24) (x := .tmp 0) (v := .agg #[.slice h0.1 a0.f0.length h0.2]) (by kernel_rfl) (by kernel_rfl)) (by kernel_rfl) (fun p0_0 => ?_)
 refine O.e (some 4) (Ev.box (t := 9) (x := .tmp 1) (v := .string a1) (by kernel_rfl) (by kernel_rfl)) (by kernel_rfl) (fun p0_1 => ?_)
 refine O.e (some 6) (Ev.alloc (t := 24) (z := .agg #[.slice none 0 0]) (by kernel_rfl) (by kernel_rfl)) (by kernel_rfl) (fun p0_2 => ?_)
 refine O.pure 1 [] [2, 3, 4, 6] [] (fr' := [(2, .slice h1.1 a2.length h1.2), (3, .pointer (some ⟨p0_0, 0, none⟩)), (4, .pointer (some ⟨p0_1, 0, none⟩)), (6, .pointer (some ⟨p0_2, 0, none⟩))]) (bx' := [⟨p0_2, [.slice none 0 0], 24⟩, ⟨p0_1, [.string a1], 9⟩, ⟨p0_0, [.slice h0.1 a0.f0.length h0.2], 24⟩]) (by kernel_rfl) ?_
 refine O.nil (by kernel_rfl) ?_
 refine J.seq (by kernel_rfl) ?_
 obtain ⟨x1_1, hx1_1, H⟩ := bindE H
 refine J.region (by kernel_rfl) ?_
 refine O.pure 1 [(2, 0)] [2, 3, 4, 6, 10] [p0_0, 0] (fr' := [(2, .slice h1.1 a2.length h1.2), (3, .pointer (some ⟨p0_0, 0, none⟩)), (4, .pointer (some ⟨p0_1, 0, none⟩)), (6, .pointer (some ⟨p0_2, 0, none⟩)), (10, .agg #[.slice h0.1 a0.f0.length h0.2])]) (bx' := [⟨p0_2, [.slice none 0 0], 24⟩, ⟨p0_1, [.string a1], 9⟩, ⟨p0_0, [.slice h0.1 a0.f0.length h0.2], 24⟩]) (by kernel_rfl) ?_
 refine O.e (some 11) (Ev.callD (xs := [.tmp 10]) (v := fun i : Hd × List (S70 × Hd) => .agg #[.slice i.1.1 x1_1.f0.length i.1.2]) (r1 := fun i => [mkRow (sh70.kdS i.2) 70 (.slice i.1.1 x1_1.f0.length i.1.2) x1_1.f0]) (Dp := fun b i w' => Deep b 5 i.2 w' ∧ ∀ z ∈ i.2, ∀ b ∈ hdB z.2, b ∉ ownB (.slice i.1.1 x1_1.f0.length i.1.2)) [0] (by kernel_rfl) (by kernel_rfl) (fun w hS => disk_own.conD K a0 h0  _ _ w hS hx1_1)) (by kernel_rfl) (fun p1_1 => ?_)
 refine O.rescope (fun w1_ hS1_ hD1_ => ?_)
 obtain ⟨b1_, hb1_, hb2_, hD1_, hD2_⟩ := hD1_
 have hDp_ := hD1_.mono hb1_
 have hout_ := hD1_.out (r := mkRow (sh70.kdS p1_1.2) 70 (.slice p1_1.1.1 x1_1.f0.length p1_1.1.2) x1_1.f0) hb2_ hD2_
 refine O.pure 1 [(2, 0)] [2, 3, 4, 6] [p0_0, 0] (fr' := [(2, .slice h1.1 a2.length h1.2), (3, .pointer (some ⟨p0_0, 0, none⟩)), (4, .pointer (some ⟨p0_1, 0, none⟩)), (6, .pointer (some ⟨p0_2, 0, none⟩))]) (bx' := [⟨p0_2, [.slice none 0 0], 24⟩, ⟨p0_1, [.string a1], 9⟩, ⟨p0_0, [.slice p1_1.1.1 x1_1.f0.length p1_1.1.2], 24⟩]) (by kernel_rfl) ?_
 refine O.nil (by kernel_rfl) ?_
 refine J.seq (by kernel_rfl) ?_
 refine J.seq (by kernel_rfl) ?_
 obtain ⟨x2_1, hx2_1, H⟩ := bindE H
 refine J.region (by kernel_rfl) ?_
 refine O.pure 1 [(1, 0)] [2, 3, 4, 6, 12] [p0_1, 0] (fr' := [(2, .slice h1.1 a2.length h1.2), (3, .pointer (some ⟨p0_0, 0, none⟩)), (4, .pointer (some ⟨p0_1, 0, none⟩)), (6, .pointer (some ⟨p0_2, 0, none⟩)), (12, .string a1)]) (bx' := [⟨p0_2, [.slice none 0 0], 24⟩, ⟨p0_1, [.string a1], 9⟩, ⟨p0_0, [.slice p1_1.1.1 x1_1.f0.length p1_1.1.2], 24⟩]) (by kernel_rfl) ?_
 refine O.e (some 13) (Ev.call0 (xs := [.tmp 12]) [] (by kernel_rfl) (by kernel_rfl) (fun w hS => disk_named.con K a1  _ _ w hS hx2_1)) (by kernel_rfl) (fun _ => ?_)
 refine O.pure 1 [] [2, 3, 4, 6, 14] [] (fr' := [(2, .slice h1.1 a2.length h1.2), (3, .pointer (some ⟨p0_0, 0, none⟩)), (4, .pointer (some ⟨p0_1, 0, none⟩)), (6, .pointer (some ⟨p0_2, 0, none⟩)), (14, .bool (!x2_1))]) (bx' := [⟨p0_2, [.slice none 0 0], 24⟩, ⟨p0_1, [.string a1], 9⟩, ⟨p0_0, [.slice p1_1.1.1 x1_1.f0.length p1_1.1.2], 24⟩]) (by kernel_rfl) ?_
 refine O.nil (by kernel_rfl) ?_
 rcases condE H with ⟨hc1, H⟩ | ⟨hc1, H⟩
 ·refine J.condT (x := .tmp 14) (t := (!x2_1)) (by kernel_rfl) (by kernel_rfl) hc1 ?_
  refine J.seq (by kernel_rfl) ?_
  refine J.region (by kernel_rfl) ?_
  refine O.pure 3 [(2, 0), (0, 0)] [6, 7] [p0_0, 0, p0_2, 0] (fr' := [(6, .pointer (some ⟨p0_2, 0, none⟩)), (7, .int .i64 1)]) (bx' := [⟨p0_2, [.slice p1_1.1.1 x1_1.f0.length p1_1.1.2], 24⟩, ⟨p0_1, [.string a1], 9⟩, ⟨p0_0, [.slice p1_1.1.1 x1_1.f0.length p1_1.1.2], 24⟩]) (by kernel_rfl) ?_
  refine O.nil (by kernel_rfl) ?_
  obtain rfl := Option.some.inj H
  refine J.mono (fun w hS => hS1_.unfocus hS) ?_
  refine J.mono (fun w hS => hS.impR (d := (sh70.kdS p1_1.2)) (d' := kd70) rfl (imp70 _)) ?_
  exact J.doneS [(0, 0)] [p0_2, 0] [] [] [0] p1_1.1 (vs := [.agg #[.slice p1_1.1.1 x1_1.f0.length p1_1.1.2], .int .i64 1]) (by kernel_rfl) (by kernel_rfl) (by kernel_rfl) (by kernel_rfl) (by kernel_rfl) (by decide)
 ·refine J.condF (x := .tmp 14) (t := (!x2_1)) (by kernel_rfl) (by kernel_rfl) hc1 ?_
  refine J.skip (by kernel_rfl) ?_
  refine J.seq (by kernel_rfl) ?_
  obtain ⟨x4_2, hx4_2, H⟩ := bindE H
  refine J.region (by kernel_rfl) ?_
  refine O.pure 2 [(2, 0), (1, 0)] [2, 3, 4, 6, 16, 17] [p0_0, 0, p0_1, 0] (fr' := [(2, .slice h1.1 a2.length h1.2), (3, .pointer (some ⟨p0_0, 0, none⟩)), (4, .pointer (some ⟨p0_1, 0, none⟩)), (6, .pointer (some ⟨p0_2, 0, none⟩)), (16, .agg #[.slice p1_1.1.1 x1_1.f0.length p1_1.1.2]), (17, .string a1)]) (bx' := [⟨p0_2, [.slice none 0 0], 24⟩, ⟨p0_1, [.string a1], 9⟩, ⟨p0_0, [.slice p1_1.1.1 x1_1.f0.length p1_1.1.2], 24⟩]) (by kernel_rfl) ?_
  refine O.e (some 18) (Ev.callLb (xs1 := [.tmp 16, .tmp 17]) [0] (fun w hS => ((hS.rowsel [0] rfl (by decide)).freezeL (hh := p1_1.1) (m := x1_1.f0.length) (xs := x1_1.f0) rfl).impF (fun w h => Rd.imp (d := (sh70.kdS p1_1.2)) (d' := kd70) rfl (imp70 _) h)) (by kernel_rfl) (by kernel_rfl) (fun _ q hq => by cases hq) (fun w hS => disk_at.con K x1_1 a1 p1_1.1  _ _ w hS hx4_2)) (by kernel_rfl) (fun _ => ?_)
  refine O.pure 1 [] [2, 3, 4, 6, 8] [] (fr' := [(2, .slice h1.1 a2.length h1.2), (3, .pointer (some ⟨p0_0, 0, none⟩)), (4, .pointer (some ⟨p0_1, 0, none⟩)), (6, .pointer (some ⟨p0_2, 0, none⟩)), (8, .int .i64 x4_2)]) (bx' := [⟨p0_2, [.slice none 0 0], 24⟩, ⟨p0_1, [.string a1], 9⟩, ⟨p0_0, [.slice p1_1.1.1 x1_1.f0.length p1_1.1.2], 24⟩]) (by kernel_rfl) ?_
  refine O.nil (by kernel_rfl) ?_
  refine J.seq (by kernel_rfl) ?_
  refine J.block (id := 0) (by kernel_rfl) ?_
  refine J.seq (by kernel_rfl) ?_
  refine J.seq (by kernel_rfl) ?_
  rcases condE H with ⟨hc2, H⟩ | ⟨hc2, H⟩
  ·refine J.region (by kernel_rfl) ?_
   refine O.pure 1 [] [2, 3, 4, 6, 8, 20] [] (fr' := [(2, .slice h1.1 a2.length h1.2), (3, .pointer (some ⟨p0_0, 0, none⟩)), (4, .pointer (some ⟨p0_1, 0, none⟩)), (6, .pointer (some ⟨p0_2, 0, none⟩)), (8, .int .i64 x4_2), (20, .int .i64 x4_2)]) (bx' := [⟨p0_2, [.slice none 0 0], 24⟩, ⟨p0_1, [.string a1], 9⟩, ⟨p0_0, [.slice p1_1.1.1 x1_1.f0.length p1_1.1.2], 24⟩]) (by kernel_rfl) ?_
   refine O.q (v := .bool true) (some 21) (Qu.eqv (u := .bool (decide (x4_2 < 0))) (v := .bool true) (0, 0) [] (by kernel_rfl) (congrArg Value.bool hc2)) (by kernel_rfl) ?_
   refine O.pure 7 [(2, 0)] [2, 3, 4, 6, 8, 19] [p0_0, 0] (fr' := [(2, .slice h1.1 a2.length h1.2), (3, .pointer (some ⟨p0_0, 0, none⟩)), (4, .pointer (some ⟨p0_1, 0, none⟩)), (6, .pointer (some ⟨p0_2, 0, none⟩)), (8, .int .i64 x4_2), (19, .bool ((x1_1.f0.length : Int) == 40))]) (bx' := [⟨p0_2, [.slice none 0 0], 24⟩, ⟨p0_1, [.string a1], 9⟩, ⟨p0_0, [.slice p1_1.1.1 x1_1.f0.length p1_1.1.2], 24⟩]) (by kernel_rfl) ?_
   refine O.nil (by kernel_rfl) ?_
   refine J.join (α := Bool) (γ := Unit) (fun o3 q3 => [(2, .slice h1.1 a2.length h1.2), (3, .pointer (some ⟨p0_0, 0, none⟩)), (4, .pointer (some ⟨p0_1, 0, none⟩)), (6, .pointer (some ⟨p0_2, 0, none⟩)), (8, .int .i64 x4_2), (19, .bool o3)]) (fun o3 q3 => St X w1_ (keys [⟨p0_2, [.slice none 0 0], 24⟩, ⟨p0_1, [.string a1], 9⟩, ⟨p0_0, [.slice h0.1 a0.f0.length h0.2], 24⟩] [mkRow (sh70.kdS p1_1.2) 70 (.slice p1_1.1.1 x1_1.f0.length p1_1.1.2) x1_1.f0]) [⟨p0_2, [.slice none 0 0], 24⟩, ⟨p0_1, [.string a1], 9⟩, ⟨p0_0, [.slice p1_1.1.1 x1_1.f0.length p1_1.1.2], 24⟩] [mkRow (sh70.kdS p1_1.2) 70 (.slice p1_1.1.1 x1_1.f0.length p1_1.1.2) x1_1.f0] [] [Rd kd70 h0.1 h0.2 a0.f0, Rd (Kd.int .u8) h1.1 h1.2 a2]) H (fun o3 q3 H => ?_) (fun o3 H hj3 => ?_)
   ·rcases condE H with ⟨hc7, H⟩ | ⟨hc7, H⟩
    ·refine J.condT (x := .tmp 19) (t := o3) (by kernel_rfl) (by kernel_rfl) hc7 ?_
     refine J.seq (by kernel_rfl) ?_
     refine J.region (by kernel_rfl) ?_
     refine O.pure 3 [(2, 0), (0, 0)] [6, 7] [p0_0, 0, p0_2, 0] (fr' := [(6, .pointer (some ⟨p0_2, 0, none⟩)), (7, .int .i64 3)]) (bx' := [⟨p0_2, [.slice p1_1.1.1 x1_1.f0.length p1_1.1.2], 24⟩, ⟨p0_1, [.string a1], 9⟩, ⟨p0_0, [.slice p1_1.1.1 x1_1.f0.length p1_1.1.2], 24⟩]) (by kernel_rfl) ?_
     refine O.nil (by kernel_rfl) ?_
     obtain rfl := Option.some.inj H
     refine J.mono (fun w hS => hS1_.unfocus hS) ?_
     refine J.mono (fun w hS => hS.impR (d := (sh70.kdS p1_1.2)) (d' := kd70) rfl (imp70 _)) ?_
     exact J.doneS [(0, 0)] [p0_2, 0] [] [] [0] p1_1.1 (vs := [.agg #[.slice p1_1.1.1 x1_1.f0.length p1_1.1.2], .int .i64 3]) (by kernel_rfl) (by kernel_rfl) (by kernel_rfl) (by kernel_rfl) (by kernel_rfl) (by decide)
    ·refine J.condF (x := .tmp 19) (t := o3) (by kernel_rfl) (by kernel_rfl) hc7 ?_
     refine J.seq (by kernel_rfl) ?_
     refine J.region (by kernel_rfl) ?_
     refine O.pure 1 [] [2, 3, 4, 6, 8, 48] [] (fr' := [(2, .slice h1.1 a2.length h1.2), (3, .pointer (some ⟨p0_0, 0, none⟩)), (4, .pointer (some ⟨p0_1, 0, none⟩)), (6, .pointer (some ⟨p0_2, 0, none⟩)), (8, .int .i64 x4_2), (48, .int .i64 x4_2)]) (bx' := [⟨p0_2, [.slice none 0 0], 24⟩, ⟨p0_1, [.string a1], 9⟩, ⟨p0_0, [.slice p1_1.1.1 x1_1.f0.length p1_1.1.2], 24⟩]) (by kernel_rfl) ?_
     refine O.q (v := .bool true) (some 49) (Qu.eqv (u := .bool (decide (x4_2 < 0))) (v := .bool true) (0, 0) [] (by kernel_rfl) (congrArg Value.bool hc2)) (by kernel_rfl) ?_
     refine O.pure 1 [] [2, 3, 4, 6, 8, 47] [] (fr' := [(2, .slice h1.1 a2.length h1.2), (3, .pointer (some ⟨p0_0, 0, none⟩)), (4, .pointer (some ⟨p0_1, 0, none⟩)), (6, .pointer (some ⟨p0_2, 0, none⟩)), (8, .int .i64 x4_2), (47, .bool true)]) (bx' := [⟨p0_2, [.slice none 0 0], 24⟩, ⟨p0_1, [.string a1], 9⟩, ⟨p0_0, [.slice p1_1.1.1 x1_1.f0.length p1_1.1.2], 24⟩]) (by kernel_rfl) ?_
     refine O.nil (by kernel_rfl) ?_
     refine J.cond (o := .tmp 47) true (by kernel_rfl) (by kernel_rfl) ?_
     refine J.seq (by kernel_rfl) ?_
     obtain ⟨x10_2, hx10_2, H⟩ := bindE H
     refine J.region (by kernel_rfl) ?_
     refine O.pure 2 [(2, 0)] [2, 3, 4, 6, 8, 50, 51] [p0_0, 0] (fr' := [(2, .slice h1.1 a2.length h1.2), (3, .pointer (some ⟨p0_0, 0, none⟩)), (4, .pointer (some ⟨p0_1, 0, none⟩)), (6, .pointer (some ⟨p0_2, 0, none⟩)), (8, .int .i64 x4_2), (50, .agg #[.slice p1_1.1.1 x1_1.f0.length p1_1.1.2]), (51, .func (.func 56) #[] #[.pointer (some ⟨p0_1, 0, none⟩)])]) (bx' := [⟨p0_2, [.slice none 0 0], 24⟩, ⟨p0_1, [.string a1], 9⟩, ⟨p0_0, [.slice p1_1.1.1 x1_1.f0.length p1_1.1.2], 24⟩]) (by kernel_rfl) ?_
     refine O.e (some 52) (Ev.callLb (xs1 := [.tmp 50, .tmp 51]) [1, 0] (fun w hS => (((hS.rowsel [0] rfl (by decide)).freezeL (hh := p1_1.1) (m := x1_1.f0.length) (xs := x1_1.f0) rfl).impF (fun w h => Rd.imp (d := (sh70.kdS p1_1.2)) (d' := kd70) rfl (imp70 _) h)).boxfact 1 [0, 2] rfl rfl (by decide)) (by kernel_rfl) (by kernel_rfl) (fun _ q hq => by cases hq) (fun w hS => disk_find_f56.con K x1_1 a1 p0_1 p1_1.1  _ _ w hS hx10_2)) (by kernel_rfl) (fun _ => ?_)
     refine O.pure 1 [] [2, 3, 4, 6, 8] [] (fr' := [(2, .slice h1.1 a2.length h1.2), (3, .pointer (some ⟨p0_0, 0, none⟩)), (4, .pointer (some ⟨p0_1, 0, none⟩)), (6, .pointer (some ⟨p0_2, 0, none⟩)), (8, .int .i64 x10_2)]) (bx' := [⟨p0_2, [.slice none 0 0], 24⟩, ⟨p0_1, [.string a1], 9⟩, ⟨p0_0, [.slice p1_1.1.1 x1_1.f0.length p1_1.1.2], 24⟩]) (by kernel_rfl) ?_
     refine O.nil (by kernel_rfl) ?_
     refine J.seq (by kernel_rfl) ?_
     refine J.seq (by kernel_rfl) ?_
     refine J.region (by kernel_rfl) ?_
     refine O.pure 2 [] [2, 3, 4, 6, 8, 54] [] (fr' := [(2, .slice h1.1 a2.length h1.2), (3, .pointer (some ⟨p0_0, 0, none⟩)), (4, .pointer (some ⟨p0_1, 0, none⟩)), (6, .pointer (some ⟨p0_2, 0, none⟩)), (8, .int .i64 x10_2), (54, .bool (decide (x10_2 < 0)))]) (bx' := [⟨p0_2, [.slice none 0 0], 24⟩, ⟨p0_1, [.string a1], 9⟩, ⟨p0_0, [.slice p1_1.1.1 x1_1.f0.length p1_1.1.2], 24⟩]) (by kernel_rfl) ?_
     refine O.nil (by kernel_rfl) ?_
     refine J.join (α := Int) (γ := Unit) (fun o8 q8 => [(2, .slice h1.1 a2.length h1.2), (3, .pointer (some ⟨p0_0, 0, none⟩)), (4, .pointer (some ⟨p0_1, 0, none⟩)), (6, .pointer (some ⟨p0_2, 0, none⟩)), (8, .int .i64 o8)]) (fun o8 q8 => St X w1_ (keys [⟨p0_2, [.slice none 0 0], 24⟩, ⟨p0_1, [.string a1], 9⟩, ⟨p0_0, [.slice h0.1 a0.f0.length h0.2], 24⟩] [mkRow (sh70.kdS p1_1.2) 70 (.slice p1_1.1.1 x1_1.f0.length p1_1.1.2) x1_1.f0]) [⟨p0_2, [.slice none 0 0], 24⟩, ⟨p0_1, [.string a1], 9⟩, ⟨p0_0, [.slice p1_1.1.1 x1_1.f0.length p1_1.1.2], 24⟩] [mkRow (sh70.kdS p1_1.2) 70 (.slice p1_1.1.1 x1_1.f0.length p1_1.1.2) x1_1.f0] [] [Rd kd70 h0.1 h0.2 a0.f0, Rd (Kd.int .u8) h1.1 h1.2 a2]) H (fun o8 q8 H => ?_) (fun o8 H hj8 => ?_)
     ·refine J.seq (by kernel_rfl) ?_
      obtain ⟨y13_4, hy13_4, H⟩ := bindE H
      obtain ⟨hy13_4a, hy13_4b, hy13_4c, -⟩ := cutE hy13_4
      obtain ⟨y13_5, hy13_5, H⟩ := bindE H
      have hy13_5a := (appE hy13_5).1
      refine J.region (by kernel_rfl) ?_
      refine O.e (some 58) (Ev.lit (t := 22) (len := 0) (parts := #[]) (ps := []) (cs := []) (e := 70) (sh70.kdS p1_1.2) ([] : List S70) (by kernel_rfl) (by kernel_rfl) (by kernel_rfl) (by kernel_rfl) (by kernel_rfl) (by decide) (fun w' hφ => (Els.nil _ _ _))) (by kernel_rfl) (fun p13_0 => ?_)
      refine O.pure 3 [(2, 0)] [2, 3, 4, 6, 8, 58, 60, 61] [p0_0, 0] (fr' := [(2, .slice h1.1 a2.length h1.2), (3, .pointer (some ⟨p0_0, 0, none⟩)), (4, .pointer (some ⟨p0_1, 0, none⟩)), (6, .pointer (some ⟨p0_2, 0, none⟩)), (8, .int .i64 o8), (58, .slice ((some ⟨p13_0, 0, none⟩, 0) : Hd).1 ([] : List S70).length ((some ⟨p13_0, 0, none⟩, 0) : Hd).2), (60, .slice p1_1.1.1 x1_1.f0.length p1_1.1.2), (61, .int .i64 o8)]) (bx' := [⟨p0_2, [.slice none 0 0], 24⟩, ⟨p0_1, [.string a1], 9⟩, ⟨p0_0, [.slice p1_1.1.1 x1_1.f0.length p1_1.1.2], 24⟩]) (by kernel_rfl) ?_
      refine O.e (some 62) (Ev.mono (fun w hS => hS.rowsel [1, 0] rfl (by decide)) (Ev.mono (fun w hS => hS.freezeH (h := p1_1.1) (xs := x1_1.f0)) (Ev.cut (d := (sh70.kdS p1_1.2)) (xs := x1_1.f0) (t := 22) (x := .tmp 60) (lo := (some (.tmp 61))) (hi := none) (vlo := (some (.int .i64 o8))) (vhi := none) (A := p1_1.1.1) (c := p1_1.1.2) (l := (o8 : Int).toNat) (h := ((x1_1.f0.length : Int) : Int).toNat) 0 (by kernel_rfl) (by kernel_rfl) (by kernel_rfl) (by kernel_rfl) (by kernel_rfl) (Bd.val _ _ _ (by omega)) (Bd.dflt _) (by omega) (by omega) rfl))) (by kernel_rfl) (fun p13_4 => ?_)
      refine O.e (some 63) (Ev.appSl (d := (sh70.kdS p1_1.2)) (ys := (cutL x1_1.f0 ((o8 : Int).toNat) (((x1_1.f0.length : Int) : Int).toNat))) (A := p13_4.1) (c := p13_4.2) (x := .tmp 58) (y := .tmp 62) (t := 22) (bytes := 48) 0 (by kernel_rfl) (by kernel_rfl) (by kernel_rfl) rfl (by kernel_rfl) ⟨Nat.succ_pos 2, Nat.succ_pos 47⟩ hy13_5a) (by kernel_rfl) (fun p13_5 => ?_)
      refine O.pure 1 [] [2, 3, 4, 6, 8, 9] [] (fr' := [(2, .slice h1.1 a2.length h1.2), (3, .pointer (some ⟨p0_0, 0, none⟩)), (4, .pointer (some ⟨p0_1, 0, none⟩)), (6, .pointer (some ⟨p0_2, 0, none⟩)), (8, .int .i64 o8), (9, .slice p13_5.1 (([] : List S70) ++ (cutL x1_1.f0 ((o8 : Int).toNat) (((x1_1.f0.length : Int) : Int).toNat))).length p13_5.2)]) (bx' := [⟨p0_2, [.slice none 0 0], 24⟩, ⟨p0_1, [.string a1], 9⟩, ⟨p0_0, [.slice p1_1.1.1 x1_1.f0.length p1_1.1.2], 24⟩]) (by kernel_rfl) ?_
      refine O.nil (by kernel_rfl) ?_
      obtain ⟨y14_4, hy14_4, H⟩ := bindE H
      obtain ⟨hy14_4a, hy14_4b, hy14_4c, -⟩ := cutE hy14_4
      obtain ⟨y14_8, hy14_8, H⟩ := bindE H
      have hy14_8a := (appE hy14_8).1
      obtain ⟨y14_10, hy14_10, H⟩ := bindE H
      have hy14_10a := (appE hy14_10).1
      refine J.cutAt (γ := (Option Addr) × Nat × Hd × Hd) (fun q_ => [(2, .slice h1.1 a2.length h1.2), (3, .pointer (some ⟨p0_0, 0, none⟩)), (6, .pointer (some ⟨p0_2, 0, none⟩)), (8, .int .i64 o8)]) (fun q_ => St X w1_ (keys [⟨p0_2, [.slice none 0 0], 24⟩, ⟨p0_1, [.string a1], 9⟩, ⟨p0_0, [.slice h0.1 a0.f0.length h0.2], 24⟩] [mkRow (sh70.kdS p1_1.2) 70 (.slice p1_1.1.1 x1_1.f0.length p1_1.1.2) x1_1.f0]) [⟨p0_2, [.slice none 0 0], 24⟩, ⟨p0_1, [.string a1], 9⟩, ⟨p0_0, [.slice q_.2.2.2.1 (((cutL x1_1.f0 ((0 : Int).toNat) ((o8 : Int).toNat)) ++ ([(⟨a1, ([] : List Int), 0⟩ : S70)] : List S70)) ++ (([] : List S70) ++ (cutL x1_1.f0 ((o8 : Int).toNat) (((x1_1.f0.length : Int) : Int).toNat)))).length q_.2.2.2.2], 24⟩] [mkRow (sh70.kdS p1_1.2) 70 (.slice q_.2.2.2.1 (((cutL x1_1.f0 ((0 : Int).toNat) ((o8 : Int).toNat)) ++ ([(⟨a1, ([] : List Int), 0⟩ : S70)] : List S70)) ++ (([] : List S70) ++ (cutL x1_1.f0 ((o8 : Int).toNat) (((x1_1.f0.length : Int) : Int).toNat)))).length q_.2.2.2.2) (((cutL x1_1.f0 ((0 : Int).toNat) ((o8 : Int).toNat)) ++ ([(⟨a1, ([] : List Int), 0⟩ : S70)] : List S70)) ++ (([] : List S70) ++ (cutL x1_1.f0 ((o8 : Int).toNat) (((x1_1.f0.length : Int) : Int).toNat))))] [] [Rd (sh70.kdS p1_1.2) p13_5.1 p13_5.2 (([] : List S70) ++ (cutL x1_1.f0 ((o8 : Int).toNat) (((x1_1.f0.length : Int) : Int).toNat))), Rd (sh70.kdS p1_1.2) ((some ⟨q_.2.1, 0, none⟩, 1) : Hd).1 ((some ⟨q_.2.1, 0, none⟩, 1) : Hd).2 ([(⟨a1, ([] : List Int), 0⟩ : S70)] : List S70), Rd (sh70.kdS p1_1.2) ((q_.1, (cutL x1_1.f0 ((0 : Int).toNat) ((o8 : Int).toNat)).length) : Hd).1 ((q_.1, (cutL x1_1.f0 ((0 : Int).toNat) ((o8 : Int).toNat)).length) : Hd).2 (cutL x1_1.f0 ((0 : Int).toNat) ((o8 : Int).toNat)), Rd (sh70.kdS p1_1.2) p13_4.1 p13_4.2 (cutL x1_1.f0 ((o8 : Int).toNat) (((x1_1.f0.length : Int) : Int).toNat)), Rd (sh70.kdS p1_1.2) p1_1.1.1 p1_1.1.2 x1_1.f0, Rd kd70 h0.1 h0.2 a0.f0, Rd (Kd.int .u8) h1.1 h1.2 a2]) (fun q_ => ?_) (fun hk_ => ?_)
      ·obtain ⟨p14_4, p14_7, p14_8, p14_10⟩ := q_
       refine J.out ?_
       refine J.seq (by kernel_rfl) ?_
       obtain ⟨x15_6, hx15_6, H⟩ := bindE H
       obtain ⟨hx15_6a, hx15_6⟩ := idxE hx15_6
       obtain ⟨y15_10, hy15_10, H⟩ := bindE H
       have hy15_10a := (appE hy15_10).1
       obtain ⟨z15_10, hz15_10, H⟩ := bindE H
       refine J.mono (fun w hS => hS.pk) ?_
       refine J.peek (d := (sh70.kdS p1_1.2)) (hh := p14_10) (m := (((cutL x1_1.f0 ((0 : Int).toNat) ((o8 : Int).toNat)) ++ ([(⟨a1, ([] : List Int), 0⟩ : S70)] : List S70)) ++ (([] : List S70) ++ (cutL x1_1.f0 ((o8 : Int).toNat) (((x1_1.f0.length : Int) : Int).toNat)))).length) (i := o8) (by simpa only [List.length_set] using hx15_6) (opS70 p1_1.2 _) (fun p15_6 hp15_6A => ?_)
       refine J.drawS (by kernel_rfl) [(0, some 76, .pointer (some ⟨p0_0, 0, none⟩)), (1, some 77, .slice p14_10.1 (((cutL x1_1.f0 ((0 : Int).toNat) ((o8 : Int).toNat)) ++ ([(⟨a1, ([] : List Int), 0⟩ : S70)] : List S70)) ++ (([] : List S70) ++ (cutL x1_1.f0 ((o8 : Int).toNat) (((x1_1.f0.length : Int) : Int).toNat)))).length p14_10.2), (2, some 78, .int .i64 o8), (3, some 79, .pointer (some ⟨p0_0, 0, none⟩)), (4, some 80, .slice p14_10.1 (((cutL x1_1.f0 ((0 : Int).toNat) ((o8 : Int).toNat)) ++ ([(⟨a1, ([] : List Int), 0⟩ : S70)] : List S70)) ++ (([] : List S70) ++ (cutL x1_1.f0 ((o8 : Int).toNat) (((x1_1.f0.length : Int) : Int).toNat)))).length p14_10.2), (5, some 81, .int .i64 o8), (7, some 83, .pointer (some ⟨p15_6.1, 0 + o8.toNat * 3 + 1, none⟩)), (9, some 85, .slice h1.1 a2.length h1.2), (6, some 82, .pointer (some ⟨p15_6.1, 0 + o8.toNat * 3, none⟩)), (8, some 84, .slice p15_6.2.1 x15_6.f1.length p15_6.2.2)] ([0, 1, 2, 3, 4, 5, 7, 9] ++ [6, 8]) (by kernel_rfl) ?_
       refine D.mid (cs := [10]) [0, 1, 2, 3, 4, 5, 7, 9] [6, 8] [(2, 0), (2, 0)] [p0_0, 0, p0_0, 0] (by kernel_rfl) (by kernel_rfl) (⟨QuAt.mk (v := .pointer (some ⟨p15_6.1, 0 + o8.toNat * 3, none⟩)) (some 82) (by kernel_rfl) (by kernel_rfl) (Qu.idx (t := 22) (x := .tmp 80) (y := .tmp 81) (len := (((cutL x1_1.f0 ((0 : Int).toNat) ((o8 : Int).toNat)) ++ ([(⟨a1, ([] : List Int), 0⟩ : S70)] : List S70)) ++ (([] : List S70) ++ (cutL x1_1.f0 ((o8 : Int).toNat) (((x1_1.f0.length : Int) : Int).toNat)))).length) (c := p14_10.2) (kk := .i64) (sz := 3) (by kernel_rfl) (by kernel_rfl) (by kernel_rfl) (by kernel_rfl) hx15_6a (by have := idx_lt hx15_6; simpa only [List.length_set, List.length_replicate] using this) hp15_6A), QuAt.mk (v := .slice p15_6.2.1 x15_6.f1.length p15_6.2.2) (some 84) (by kernel_rfl) (by kernel_rfl) (Qu.loadR (t := 27) (x := .tmp 83) (hh := p14_10) (m := (((cutL x1_1.f0 ((0 : Int).toNat) ((o8 : Int).toNat)) ++ ([(⟨a1, ([] : List Int), 0⟩ : S70)] : List S70)) ++ (([] : List S70) ++ (cutL x1_1.f0 ((o8 : Int).toNat) (((x1_1.f0.length : Int) : Int).toNat)))).length) (i := o8.toNat) (u := .pointer (some ⟨p15_6.1, 0 + o8.toNat * 3 + 1, none⟩)) (r := .slice p15_6.2.1 x15_6.f1.length p15_6.2.2) (cs := [.string x15_6.f0, .slice p15_6.2.1 x15_6.f1.length p15_6.2.2, .int .i64 x15_6.f2]) 0 1 [p15_6.1, 0 + o8.toNat * 3 + 1] (by kernel_rfl) (by kernel_rfl) hp15_6A rfl (by kernel_rfl)), trivial⟩) (by kernel_rfl) ⟨?_, trivial⟩
       refine EvStep.mk (some 86) (new := fun p15_10 => [(11, some 87, .pointer (some ⟨p15_6.1, 0 + o8.toNat * 3, none⟩)), (12, some 88, .pointer (some ⟨p15_6.1, 0 + o8.toNat * 3 + 1, none⟩))]) ([0, 1, 2, 3, 4, 5, 7, 12] ++ [6, 11]) (by kernel_rfl) (Ev.mono' (fun q w hS => hS.freezeH (h := q) (xs := (x15_6.f1 ++ a2))) (Ev.mono (fun w hS => St.thaw sh70 (eF := 70) (e := 5) (h := p15_6.2) (i := o8.toNat) (x := x15_6) hSe_ hS1_ hDp_ hout_ hS 0 hx15_6 (hS.now 1 rfl) rfl (fun y_ : S70 => y_.f0.toList ≠ x15_6.f0.toList) (fun j y hy hpy => ⟨fun hj => hpy (by subst hj; rw [hx15_6] at hy; rw [Option.some.inj hy]), fun hyx => hpy (by rw [hyx])⟩)) (Ev.appSl (d := (Kd.int .u8)) (ys := a2) (A := h1.1) (c := h1.2) (x := .tmp 84) (y := .tmp 85) (t := 27) (bytes := 1) 1 (by kernel_rfl) (by kernel_rfl) (by kernel_rfl) rfl (by kernel_rfl) (by decide) hy15_10a))) (fun p15_10 => by kernel_rfl) (fun p15_10 => ?_)
       refine D.mid (cs := [13]) [0, 1, 2, 3, 4, 5, 7, 12] [6, 11] [(2, 0), (2, 0)] [p0_0, 0, p0_0, 0] (by kernel_rfl) (by kernel_rfl) (⟨QuAt.mk (v := .pointer (some ⟨p15_6.1, 0 + o8.toNat * 3, none⟩)) (some 82) (by kernel_rfl) (by kernel_rfl) (Qu.idx (t := 22) (x := .tmp 80) (y := .tmp 81) (len := (((cutL x1_1.f0 ((0 : Int).toNat) ((o8 : Int).toNat)) ++ ([(⟨a1, ([] : List Int), 0⟩ : S70)] : List S70)) ++ (([] : List S70) ++ (cutL x1_1.f0 ((o8 : Int).toNat) (((x1_1.f0.length : Int) : Int).toNat)))).length) (c := p14_10.2) (kk := .i64) (sz := 3) (by kernel_rfl) (by kernel_rfl) (by kernel_rfl) (by kernel_rfl) hx15_6a (by have := idx_lt hx15_6; simpa only [List.length_set, List.length_replicate] using this) hp15_6A), QuAt.mk (v := .pointer (some ⟨p15_6.1, 0 + o8.toNat * 3, none⟩)) (some 87) (by kernel_rfl) (by kernel_rfl) (Qu.idx (t := 22) (x := .tmp 77) (y := .tmp 78) (len := (((cutL x1_1.f0 ((0 : Int).toNat) ((o8 : Int).toNat)) ++ ([(⟨a1, ([] : List Int), 0⟩ : S70)] : List S70)) ++ (([] : List S70) ++ (cutL x1_1.f0 ((o8 : Int).toNat) (((x1_1.f0.length : Int) : Int).toNat)))).length) (c := p14_10.2) (kk := .i64) (sz := 3) (by kernel_rfl) (by kernel_rfl) (by kernel_rfl) (by kernel_rfl) hx15_6a (by have := idx_lt hx15_6; simpa only [List.length_set, List.length_replicate] using this) hp15_6A), trivial⟩) (by kernel_rfl) ⟨?_, trivial⟩
       refine EvStep.mk none (new := fun _ => []) ([] ++ [11]) (by kernel_rfl) (Ev.storeR (t := 27) (x := .tmp 88) (y := .tmp 86) (hh := p14_10) (m := (((cutL x1_1.f0 ((0 : Int).toNat) ((o8 : Int).toNat)) ++ ([(⟨a1, ([] : List Int), 0⟩ : S70)] : List S70)) ++ (([] : List S70) ++ (cutL x1_1.f0 ((o8 : Int).toNat) (((x1_1.f0.length : Int) : Int).toNat)))).length) (g := p15_6.1) (i := o8.toNat) (f := 1) (s := 1) (u := .pointer (some ⟨p15_6.1, 0 + o8.toNat * 3 + 1, none⟩)) (z := .slice p15_10.1 (x15_6.f1 ++ a2).length p15_10.2) (cs := [.string x15_6.f0, .slice p15_6.2.1 x15_6.f1.length p15_6.2.2, .int .i64 x15_6.f2]) (ncs := [.string x15_6.f0, .slice p15_10.1 (x15_6.f1 ++ a2).length p15_10.2, .int .i64 x15_6.f2]) (⟨x15_6.f0, (x15_6.f1 ++ a2), x15_6.f2⟩ : S70) (some 0) (by kernel_rfl) (by kernel_rfl) rfl (by kernel_rfl) hp15_6A (by have := idx_lt hx15_6; simpa only [List.length_set] using this) ⟨by kernel_rfl, by kernel_rfl, by kernel_rfl, by kernel_rfl⟩ rfl (by kernel_rfl) (fun w' hφ => ⟨p15_10, rfl, trivial, fun hn => absurd rfl hn⟩)) (fun _ => by kernel_rfl) (fun _ => ?_)
       refine D.fin (fr' := [(3, .pointer (some ⟨p0_0, 0, none⟩)), (6, .pointer (some ⟨p0_2, 0, none⟩))]) [] [11] [] [] [3, 6] (by kernel_rfl) (by kernel_rfl) (⟨QuAt.mk (v := .pointer (some ⟨p15_6.1, 0 + o8.toNat * 3, none⟩)) (some 87) (by kernel_rfl) (by kernel_rfl) (Qu.idx (t := 22) (x := .tmp 77) (y := .tmp 78) (len := (((cutL x1_1.f0 ((0 : Int).toNat) ((o8 : Int).toNat)) ++ ([(⟨a1, ([] : List Int), 0⟩ : S70)] : List S70)) ++ (([] : List S70) ++ (cutL x1_1.f0 ((o8 : Int).toNat) (((x1_1.f0.length : Int) : Int).toNat)))).length) (c := p14_10.2) (kk := .i64) (sz := 3) (by kernel_rfl) (by kernel_rfl) (by kernel_rfl) (by kernel_rfl) hx15_6a (by have := idx_lt hx15_6; simpa only [List.length_set, List.length_replicate] using this) hp15_6A), trivial⟩) (by kernel_rfl) ?_
       refine J.mono (fun w hS => St.whole sh70 kd70 rfl (fun w x h hr => ⟨h, rfl, hr⟩) (x := (⟨x15_6.f0, (x15_6.f1 ++ a2), x15_6.f2⟩ : S70)) (q := p15_10) (j := 0) hS (List.getElem?_set_self (idx_lt hx15_6)) (fun k y hk hne => by rw [List.getElem?_set_ne (Ne.symm hne)] at hk; exact sepE hz15_10 k y x15_6 hk hx15_6 hne) rfl) ?_
       refine J.renS [3, 6] (fr1 := [(3, .pointer (some ⟨p0_0, 0, none⟩)), (6, .pointer (some ⟨p0_2, 0, none⟩))]) (bx1 := [⟨p0_2, [.slice none 0 0], 24⟩, ⟨p0_1, [.string a1], 9⟩, ⟨p0_0, [.slice p14_10.1 (((cutL x1_1.f0 ((0 : Int).toNat) ((o8 : Int).toNat)) ++ ([(⟨a1, ([] : List Int), 0⟩ : S70)] : List S70)) ++ (([] : List S70) ++ (cutL x1_1.f0 ((o8 : Int).toNat) (((x1_1.f0.length : Int) : Int).toNat)))).length p14_10.2], 24⟩]) (rw1 := [mkRow kd70 70 (.slice p14_10.1 ((((cutL x1_1.f0 ((0 : Int).toNat) ((o8 : Int).toNat)) ++ ([(⟨a1, ([] : List Int), 0⟩ : S70)] : List S70)) ++ (([] : List S70) ++ (cutL x1_1.f0 ((o8 : Int).toNat) (((x1_1.f0.length : Int) : Int).toNat)))).length) p14_10.2) ((((cutL x1_1.f0 ((0 : Int).toNat) ((o8 : Int).toNat)) ++ ([(⟨a1, ([] : List Int), 0⟩ : S70)] : List S70)) ++ (([] : List S70) ++ (cutL x1_1.f0 ((o8 : Int).toNat) (((x1_1.f0.length : Int) : Int).toNat)))).set o8.toNat (⟨x15_6.f0, (x15_6.f1 ++ a2), x15_6.f2⟩ : S70))]) (fr' := [(3, .pointer (some ⟨p0_0, 0, none⟩)), (6, .pointer (some ⟨p0_2, 0, none⟩))]) (bx' := [⟨p0_2, [.slice none 0 0], 24⟩, ⟨p0_1, [.string a1], 9⟩, ⟨p0_0, [.slice p14_10.1 ((((cutL x1_1.f0 ((0 : Int).toNat) ((o8 : Int).toNat)) ++ ([(⟨a1, ([] : List Int), 0⟩ : S70)] : List S70)) ++ (([] : List S70) ++ (cutL x1_1.f0 ((o8 : Int).toNat) (((x1_1.f0.length : Int) : Int).toNat)))).set o8.toNat (⟨x15_6.f0, (x15_6.f1 ++ a2), x15_6.f2⟩ : S70)).length p14_10.2], 24⟩]) (rw' := [mkRow kd70 70 (.slice p14_10.1 ((((cutL x1_1.f0 ((0 : Int).toNat) ((o8 : Int).toNat)) ++ ([(⟨a1, ([] : List Int), 0⟩ : S70)] : List S70)) ++ (([] : List S70) ++ (cutL x1_1.f0 ((o8 : Int).toNat) (((x1_1.f0.length : Int) : Int).toNat)))).set o8.toNat (⟨x15_6.f0, (x15_6.f1 ++ a2), x15_6.f2⟩ : S70)).length p14_10.2) ((((cutL x1_1.f0 ((0 : Int).toNat) ((o8 : Int).toNat)) ++ ([(⟨a1, ([] : List Int), 0⟩ : S70)] : List S70)) ++ (([] : List S70) ++ (cutL x1_1.f0 ((o8 : Int).toNat) (((x1_1.f0.length : Int) : Int).toNat)))).set o8.toNat (⟨x15_6.f0, (x15_6.f1 ++ a2), x15_6.f2⟩ : S70))]) (by kernel_rfl) (by kernel_rfl) (by simp only [List.length_set, List.length_replicate]) ?_
       refine J.seq (by kernel_rfl) ?_
       refine J.region (by kernel_rfl) ?_
       refine O.pure 3 [(2, 0), (0, 0)] [6, 7] [p0_0, 0, p0_2, 0] (fr' := [(6, .pointer (some ⟨p0_2, 0, none⟩)), (7, .int .i64 0)]) (bx' := [⟨p0_2, [.slice p14_10.1 ((((cutL x1_1.f0 ((0 : Int).toNat) ((o8 : Int).toNat)) ++ ([(⟨a1, ([] : List Int), 0⟩ : S70)] : List S70)) ++ (([] : List S70) ++ (cutL x1_1.f0 ((o8 : Int).toNat) (((x1_1.f0.length : Int) : Int).toNat)))).set o8.toNat (⟨x15_6.f0, (x15_6.f1 ++ a2), x15_6.f2⟩ : S70)).length p14_10.2], 24⟩, ⟨p0_1, [.string a1], 9⟩, ⟨p0_0, [.slice p14_10.1 ((((cutL x1_1.f0 ((0 : Int).toNat) ((o8 : Int).toNat)) ++ ([(⟨a1, ([] : List Int), 0⟩ : S70)] : List S70)) ++ (([] : List S70) ++ (cutL x1_1.f0 ((o8 : Int).toNat) (((x1_1.f0.length : Int) : Int).toNat)))).set o8.toNat (⟨x15_6.f0, (x15_6.f1 ++ a2), x15_6.f2⟩ : S70)).length p14_10.2], 24⟩]) (by kernel_rfl) ?_
       refine O.nil (by kernel_rfl) ?_
       obtain rfl := Option.some.inj H
       exact J.doneS [(0, 0)] [p0_2, 0] [] [] [0] p14_10 (vs := [.agg #[.slice p14_10.1 ((((cutL x1_1.f0 ((0 : Int).toNat) ((o8 : Int).toNat)) ++ ([(⟨a1, ([] : List Int), 0⟩ : S70)] : List S70)) ++ (([] : List S70) ++ (cutL x1_1.f0 ((o8 : Int).toNat) (((x1_1.f0.length : Int) : Int).toNat)))).set o8.toNat (⟨x15_6.f0, (x15_6.f1 ++ a2), x15_6.f2⟩ : S70)).length p14_10.2], .int .i64 0]) (by kernel_rfl) (by kernel_rfl) (by kernel_rfl) (by kernel_rfl) (by kernel_rfl) (by decide)
      ·refine J.drawS (by kernel_rfl) [(0, some 64, .pointer (some ⟨p0_0, 0, none⟩)), (1, some 65, .slice p1_1.1.1 x1_1.f0.length p1_1.1.2), (2, some 66, .int .i64 o8), (3, some 67, .int .i64 o8), (5, some 69, .string a1), (6, some 70, .agg #[.string a1, .slice none 0 0, .int .i64 0]), (9, some 73, .slice p13_5.1 (([] : List S70) ++ (cutL x1_1.f0 ((o8 : Int).toNat) (((x1_1.f0.length : Int) : Int).toNat))).length p13_5.2)] ([0, 1, 2, 3, 5, 6, 9] ++ []) (by kernel_rfl) ?_
       refine D.mid (cs := [4, 7]) [0, 1, 2, 3, 5, 6, 9] [] [(2, 0), (1, 0)] [p0_0, 0, p0_1, 0] (by kernel_rfl) (by kernel_rfl) trivial (by kernel_rfl) ⟨?_, ?_, trivial⟩
       ·refine EvStep.mk (some 68) (new := fun p14_4 => []) ([0, 5, 6, 9] ++ []) (by kernel_rfl) (Ev.cut3 (d := (sh70.kdS p1_1.2)) (xs := x1_1.f0) (t := 22) (x := .tmp 65) (lo := none) (hi := (some (.tmp 66))) (mx := (some (.tmp 67))) (vlo := none) (vhi := (some (.int .i64 o8))) (vmx := (some (.int .i64 o8))) (A := p1_1.1.1) (c := p1_1.1.2) (l := (0 : Int).toNat) (h := (o8 : Int).toNat) 1 (by kernel_rfl) (by kernel_rfl) (by kernel_rfl) (by kernel_rfl) (by kernel_rfl) (by kernel_rfl) (Bd.dflt _) ⟨_, _, rfl, by omega, rfl⟩ ⟨_, _, rfl, by omega, rfl⟩ (by omega) (by omega) rfl) (fun p14_4 => by kernel_rfl) (fun p14_4 => ?_)
        refine D.mid (cs := [7]) [0, 5, 6, 9] [] [(1, 0)] [p0_1, 0] (by kernel_rfl) (by kernel_rfl) trivial (by kernel_rfl) ⟨?_, trivial⟩
        refine EvStep.mk (some 71) (new := fun p14_7 => []) ([0, 5, 9] ++ []) (by kernel_rfl) (Ev.lit (t := 22) (len := 1) (parts := #[(0, .tmp 70)]) (ps := [(0, .agg #[.string a1, .slice none 0 0, .int .i64 0])]) (cs := [.string a1, .slice none 0 0, .int .i64 0]) (e := 70) (sh70.kdS p1_1.2) ([(⟨a1, ([] : List Int), 0⟩ : S70)] : List S70) (by kernel_rfl) (by kernel_rfl) (by kernel_rfl) (by kernel_rfl) (by kernel_rfl) (by decide) (fun w' hφ => (Els.cons (c := [.string a1, .slice none 0 0, .int .i64 0]) (⟨(none, 0), rfl, .inr rfl, fun _ => Rd.nil _ _⟩) (Els.nil _ _ _)))) (fun p14_7 => by kernel_rfl) (fun p14_7 => ?_)
        refine D.mid (cs := [8]) [0, 5, 9] [] [(1, 0)] [p0_1, 0] (by kernel_rfl) (by kernel_rfl) trivial (by kernel_rfl) ⟨?_, trivial⟩
        refine EvStep.mk (some 72) (new := fun p14_8 => []) ([0, 5, 9] ++ []) (by kernel_rfl) (Ev.mono (fun w hS => hS.freezeH (h := ((some ⟨p14_7, 0, none⟩, 1) : Hd)) (xs := ([(⟨a1, ([] : List Int), 0⟩ : S70)] : List S70))) (Ev.appFullN (d := (sh70.kdS p1_1.2)) (e := 70) (xs := (cutL x1_1.f0 ((0 : Int).toNat) ((o8 : Int).toNat))) (ys := ([(⟨a1, ([] : List Int), 0⟩ : S70)] : List S70)) (hx := ((p14_4, (cutL x1_1.f0 ((0 : Int).toNat) ((o8 : Int).toNat)).length) : Hd)) (hy := ((some ⟨p14_7, 0, none⟩, 1) : Hd)) (x := .tmp 68) (y := .tmp 71) (t := 22) (bytes := 48) 1 0 (by kernel_rfl) (by kernel_rfl) (by kernel_rfl) rfl rfl (by kernel_rfl) ⟨Nat.succ_pos 2, Nat.succ_pos 47⟩ hy14_8a (List.cons_ne_nil _ _))) (fun p14_8 => by kernel_rfl) (fun p14_8 => ?_)
        refine D.mid (cs := [10]) [0, 5, 9] [] [(1, 0)] [p0_1, 0] (by kernel_rfl) (by kernel_rfl) trivial (by kernel_rfl) ⟨?_, trivial⟩
        refine EvStep.mk (some 74) (new := fun p14_10 => [(11, some 75, .pointer (some ⟨p0_0, 0, none⟩))]) ([0, 5, 11] ++ []) (by kernel_rfl) (Ev.mono (fun w hS => hS.rowsel [1, 0] rfl (by decide)) (Ev.mono (fun w hS => hS.freezeH (h := p13_5) (xs := (([] : List S70) ++ (cutL x1_1.f0 ((o8 : Int).toNat) (((x1_1.f0.length : Int) : Int).toNat))))) (Ev.appSl (d := (sh70.kdS p1_1.2)) (ys := (([] : List S70) ++ (cutL x1_1.f0 ((o8 : Int).toNat) (((x1_1.f0.length : Int) : Int).toNat)))) (A := p13_5.1) (c := p13_5.2) (x := .tmp 72) (y := .tmp 73) (t := 22) (bytes := 48) 0 (by kernel_rfl) (by kernel_rfl) (by kernel_rfl) rfl (by kernel_rfl) ⟨Nat.succ_pos 2, Nat.succ_pos 47⟩ hy14_10a))) (fun p14_10 => by kernel_rfl) (fun p14_10 => ?_)
        refine D.mid (cs := [12]) [0, 5, 11] [] [(1, 0)] [p0_1, 0] (by kernel_rfl) (by kernel_rfl) trivial (by kernel_rfl) ⟨?_, trivial⟩
        refine EvStep.mk none (new := fun _ => []) ([] ++ []) (by kernel_rfl) (Ev.store (kk := 2) (cs := [.slice p14_10.1 (((cutL x1_1.f0 ((0 : Int).toNat) ((o8 : Int).toNat)) ++ ([(⟨a1, ([] : List Int), 0⟩ : S70)] : List S70)) ++ (([] : List S70) ++ (cutL x1_1.f0 ((o8 : Int).toNat) (((x1_1.f0.length : Int) : Int).toNat)))).length p14_10.2]) (2, 0) [p0_0, 0] (by kernel_rfl)) (fun _ => by kernel_rfl) (fun _ => ?_)
        refine D.fin (fr' := [(2, .slice h1.1 a2.length h1.2), (3, .pointer (some ⟨p0_0, 0, none⟩)), (6, .pointer (some ⟨p0_2, 0, none⟩)), (8, .int .i64 o8)]) [] [] [] [] [2, 3, 6, 8] (by kernel_rfl) (by kernel_rfl) trivial (by kernel_rfl) ?_
        exact J.conv2 [2, 3, 6, 8] [0, 1, 2, 3, 4, 5, 6] [0, 1, 2] [0] (by kernel_rfl) (by kernel_rfl) (by kernel_rfl) (by kernel_rfl) (by decide) (hk_ (p14_4, p14_7, p14_8, p14_10))
       ·refine EvStep.mk (some 71) (new := fun p14_7 => []) ([0, 1, 2, 3, 5, 9] ++ []) (by kernel_rfl) (Ev.lit (t := 22) (len := 1) (parts := #[(0, .tmp 70)]) (ps := [(0, .agg #[.string a1, .slice none 0 0, .int .i64 0])]) (cs := [.string a1, .slice none 0 0, .int .i64 0]) (e := 70) (sh70.kdS p1_1.2) ([(⟨a1, ([] : List Int), 0⟩ : S70)] : List S70) (by kernel_rfl) (by kernel_rfl) (by kernel_rfl) (by kernel_rfl) (by kernel_rfl) (by decide) (fun w' hφ => (Els.cons (c := [.string a1, .slice none 0 0, .int .i64 0]) (⟨(none, 0), rfl, .inr rfl, fun _ => Rd.nil _ _⟩) (Els.nil _ _ _)))) (fun p14_7 => by kernel_rfl) (fun p14_7 => ?_)
        refine D.mid (cs := [4]) [0, 1, 2, 3, 5, 9] [] [(2, 0), (1, 0)] [p0_0, 0, p0_1, 0] (by kernel_rfl) (by kernel_rfl) trivial (by kernel_rfl) ⟨?_, trivial⟩
        refine EvStep.mk (some 68) (new := fun p14_4 => []) ([0, 5, 9] ++ []) (by kernel_rfl) (Ev.cut3 (d := (sh70.kdS p1_1.2)) (xs := x1_1.f0) (t := 22) (x := .tmp 65) (lo := none) (hi := (some (.tmp 66))) (mx := (some (.tmp 67))) (vlo := none) (vhi := (some (.int .i64 o8))) (vmx := (some (.int .i64 o8))) (A := p1_1.1.1) (c := p1_1.1.2) (l := (0 : Int).toNat) (h := (o8 : Int).toNat) 1 (by kernel_rfl) (by kernel_rfl) (by kernel_rfl) (by kernel_rfl) (by kernel_rfl) (by kernel_rfl) (Bd.dflt _) ⟨_, _, rfl, by omega, rfl⟩ ⟨_, _, rfl, by omega, rfl⟩ (by omega) (by omega) rfl) (fun p14_4 => by kernel_rfl) (fun p14_4 => ?_)
        refine D.mid (cs := [8]) [0, 5, 9] [] [(1, 0)] [p0_1, 0] (by kernel_rfl) (by kernel_rfl) trivial (by kernel_rfl) ⟨?_, trivial⟩
        refine EvStep.mk (some 72) (new := fun p14_8 => []) ([0, 5, 9] ++ []) (by kernel_rfl) (Ev.mono (fun w hS => hS.freezeH (h := ((some ⟨p14_7, 0, none⟩, 1) : Hd)) (xs := ([(⟨a1, ([] : List Int), 0⟩ : S70)] : List S70))) (Ev.appFullN (d := (sh70.kdS p1_1.2)) (e := 70) (xs := (cutL x1_1.f0 ((0 : Int).toNat) ((o8 : Int).toNat))) (ys := ([(⟨a1, ([] : List Int), 0⟩ : S70)] : List S70)) (hx := ((p14_4, (cutL x1_1.f0 ((0 : Int).toNat) ((o8 : Int).toNat)).length) : Hd)) (hy := ((some ⟨p14_7, 0, none⟩, 1) : Hd)) (x := .tmp 68) (y := .tmp 71) (t := 22) (bytes := 48) 1 0 (by kernel_rfl) (by kernel_rfl) (by kernel_rfl) rfl rfl (by kernel_rfl) ⟨Nat.succ_pos 2, Nat.succ_pos 47⟩ hy14_8a (List.cons_ne_nil _ _))) (fun p14_8 => by kernel_rfl) (fun p14_8 => ?_)
        refine D.mid (cs := [10]) [0, 5, 9] [] [(1, 0)] [p0_1, 0] (by kernel_rfl) (by kernel_rfl) trivial (by kernel_rfl) ⟨?_, trivial⟩
        refine EvStep.mk (some 74) (new := fun p14_10 => [(11, some 75, .pointer (some ⟨p0_0, 0, none⟩))]) ([0, 5, 11] ++ []) (by kernel_rfl) (Ev.mono (fun w hS => hS.rowsel [1, 0] rfl (by decide)) (Ev.mono (fun w hS => hS.freezeH (h := p13_5) (xs := (([] : List S70) ++ (cutL x1_1.f0 ((o8 : Int).toNat) (((x1_1.f0.length : Int) : Int).toNat))))) (Ev.appSl (d := (sh70.kdS p1_1.2)) (ys := (([] : List S70) ++ (cutL x1_1.f0 ((o8 : Int).toNat) (((x1_1.f0.length : Int) : Int).toNat)))) (A := p13_5.1) (c := p13_5.2) (x := .tmp 72) (y := .tmp 73) (t := 22) (bytes := 48) 0 (by kernel_rfl) (by kernel_rfl) (by kernel_rfl) rfl (by kernel_rfl) ⟨Nat.succ_pos 2, Nat.succ_pos 47⟩ hy14_10a))) (fun p14_10 => by kernel_rfl) (fun p14_10 => ?_)
        refine D.mid (cs := [12]) [0, 5, 11] [] [(1, 0)] [p0_1, 0] (by kernel_rfl) (by kernel_rfl) trivial (by kernel_rfl) ⟨?_, trivial⟩
        refine EvStep.mk none (new := fun _ => []) ([] ++ []) (by kernel_rfl) (Ev.store (kk := 2) (cs := [.slice p14_10.1 (((cutL x1_1.f0 ((0 : Int).toNat) ((o8 : Int).toNat)) ++ ([(⟨a1, ([] : List Int), 0⟩ : S70)] : List S70)) ++ (([] : List S70) ++ (cutL x1_1.f0 ((o8 : Int).toNat) (((x1_1.f0.length : Int) : Int).toNat)))).length p14_10.2]) (2, 0) [p0_0, 0] (by kernel_rfl)) (fun _ => by kernel_rfl) (fun _ => ?_)
        refine D.fin (fr' := [(2, .slice h1.1 a2.length h1.2), (3, .pointer (some ⟨p0_0, 0, none⟩)), (6, .pointer (some ⟨p0_2, 0, none⟩)), (8, .int .i64 o8)]) [] [] [] [] [2, 3, 6, 8] (by kernel_rfl) (by kernel_rfl) trivial (by kernel_rfl) ?_
        exact J.conv2 [2, 3, 6, 8] [0, 1, 2, 3, 4, 5, 6] [0, 1, 2] [0] (by kernel_rfl) (by kernel_rfl) (by kernel_rfl) (by kernel_rfl) (by decide) (hk_ (p14_4, p14_7, p14_8, p14_10))
     ·rcases condE H with ⟨hc10, H⟩ | ⟨hc10, H⟩
      ·refine J.condT (x := .tmp 54) (t := (decide (x10_2 < 0))) (by kernel_rfl) (by kernel_rfl) hc10 ?_
       refine J.region (by kernel_rfl) ?_
       refine O.pure 4 [(2, 0)] [2, 3, 4, 6, 8] [p0_0, 0] (fr' := [(2, .slice h1.1 a2.length h1.2), (3, .pointer (some ⟨p0_0, 0, none⟩)), (4, .pointer (some ⟨p0_1, 0, none⟩)), (6, .pointer (some ⟨p0_2, 0, none⟩)), (8, .int .i64 (x1_1.f0.length : Int))]) (bx' := [⟨p0_2, [.slice none 0 0], 24⟩, ⟨p0_1, [.string a1], 9⟩, ⟨p0_0, [.slice p1_1.1.1 x1_1.f0.length p1_1.1.2], 24⟩]) (by kernel_rfl) ?_
       refine O.nil (by kernel_rfl) ?_
       obtain rfl := Option.some.inj H
       exact J.conv2 [2, 3, 4, 6, 8] [0, 1] [0, 1, 2] [0] (by kernel_rfl) (by kernel_rfl) (by kernel_rfl) (by kernel_rfl) (by decide) (hj8 ())
      ·refine J.condF (x := .tmp 54) (t := (decide (x10_2 < 0))) (by kernel_rfl) (by kernel_rfl) hc10 ?_
       refine J.skip (by kernel_rfl) ?_
       obtain rfl := Option.some.inj H
       exact J.conv2 [2, 3, 4, 6, 8] [0, 1] [0, 1, 2] [0] (by kernel_rfl) (by kernel_rfl) (by kernel_rfl) (by kernel_rfl) (by decide) (hj8 ())
   ·rcases condE H with ⟨hc11, H⟩ | ⟨hc11, H⟩
    ·refine J.condT (x := .tmp 19) (t := ((x1_1.f0.length : Int) == 40)) (by kernel_rfl) (by kernel_rfl) hc11 ?_
     refine J.skip (by kernel_rfl) ?_
     obtain rfl := Option.some.inj H
     exact J.conv2 [2, 3, 4, 6, 8, 19] [0, 1] [0, 1, 2] [0] (by kernel_rfl) (by kernel_rfl) (by kernel_rfl) (by kernel_rfl) (by decide) (hj3 ())
    ·refine J.condF (x := .tmp 19) (t := ((x1_1.f0.length : Int) == 40)) (by kernel_rfl) (by kernel_rfl) hc11 ?_
     refine J.seq (by kernel_rfl) ?_
     refine J.region (by kernel_rfl) ?_
     refine O.pure 4 [] [2, 3, 4, 6, 8, 19] [] (fr' := [(2, .slice h1.1 a2.length h1.2), (3, .pointer (some ⟨p0_0, 0, none⟩)), (4, .pointer (some ⟨p0_1, 0, none⟩)), (6, .pointer (some ⟨p0_2, 0, none⟩)), (8, .int .i64 x4_2), (19, .bool (decide ((a2.length : Int) > 20000)))]) (bx' := [⟨p0_2, [.slice none 0 0], 24⟩, ⟨p0_1, [.string a1], 9⟩, ⟨p0_0, [.slice p1_1.1.1 x1_1.f0.length p1_1.1.2], 24⟩]) (by kernel_rfl) ?_
     refine O.nil (by kernel_rfl) ?_
     rcases condE H with ⟨hc12, H⟩ | ⟨hc12, H⟩
     ·refine J.condT (x := .tmp 19) (t := (decide ((a2.length : Int) > 20000))) (by kernel_rfl) (by kernel_rfl) hc12 ?_
      refine J.skip (by kernel_rfl) ?_
      obtain rfl := Option.some.inj H
      exact J.conv2 [2, 3, 4, 6, 8, 19] [0, 1] [0, 1, 2] [0] (by kernel_rfl) (by kernel_rfl) (by kernel_rfl) (by kernel_rfl) (by decide) (hj3 ())
     ·refine J.condF (x := .tmp 19) (t := (decide ((a2.length : Int) > 20000))) (by kernel_rfl) (by kernel_rfl) hc12 ?_
      rcases condE H with ⟨hc13, H⟩ | ⟨hc13, H⟩
      ·obtain ⟨x7_6, hx7_6, H⟩ := bindE H
       obtain ⟨hx7_6a, hx7_6⟩ := idxE hx7_6
       refine J.region (by kernel_rfl) ?_
       refine O.pure 1 [] [2, 3, 4, 6, 8, 19, 31] [] (fr' := [(2, .slice h1.1 a2.length h1.2), (3, .pointer (some ⟨p0_0, 0, none⟩)), (4, .pointer (some ⟨p0_1, 0, none⟩)), (6, .pointer (some ⟨p0_2, 0, none⟩)), (8, .int .i64 x4_2), (19, .bool (decide ((a2.length : Int) > 20000))), (31, .int .i64 x4_2)]) (bx' := [⟨p0_2, [.slice none 0 0], 24⟩, ⟨p0_1, [.string a1], 9⟩, ⟨p0_0, [.slice p1_1.1.1 x1_1.f0.length p1_1.1.2], 24⟩]) (by kernel_rfl) ?_
       refine O.q (v := .bool true) (some 32) (Qu.eqv (u := .bool (decide (x4_2 ≥ 0))) (v := .bool true) (0, 0) [] (by kernel_rfl) (congrArg Value.bool hc13)) (by kernel_rfl) ?_
       refine O.pure 4 [(2, 0)] [2, 3, 4, 6, 8, 19, 33, 35, 36] [p0_0, 0] (fr' := [(2, .slice h1.1 a2.length h1.2), (3, .pointer (some ⟨p0_0, 0, none⟩)), (4, .pointer (some ⟨p0_1, 0, none⟩)), (6, .pointer (some ⟨p0_2, 0, none⟩)), (8, .int .i64 x4_2), (19, .bool (decide ((a2.length : Int) > 20000))), (33, .bool true), (35, .slice p1_1.1.1 x1_1.f0.length p1_1.1.2), (36, .int .i64 x4_2)]) (bx' := [⟨p0_2, [.slice none 0 0], 24⟩, ⟨p0_1, [.string a1], 9⟩, ⟨p0_0, [.slice p1_1.1.1 x1_1.f0.length p1_1.1.2], 24⟩]) (by kernel_rfl) ?_
       refine O.mono (fun w hS => hS.pk) ?_
       refine O.peek (d := (sh70.kdS p1_1.2)) (hh := p1_1.1) (m := x1_1.f0.length) (i := x4_2) (by simpa only [List.length_set] using hx7_6) (opS70 p1_1.2 _) (fun p7_6 hp7_6A => ?_)
       refine O.q (v := .pointer (some ⟨p7_6.1, 0 + x4_2.toNat * 3, none⟩)) (some 37) (Qu.idx (t := 22) (x := .tmp 35) (y := .tmp 36) (len := x1_1.f0.length) (c := p1_1.1.2) (kk := .i64) (sz := 3) (by kernel_rfl) (by kernel_rfl) (by kernel_rfl) (by kernel_rfl) hx7_6a (by have := idx_lt hx7_6; simpa only [List.length_set, List.length_replicate] using this) hp7_6A) (by kernel_rfl) ?_
       refine O.pure 1 [] [2, 3, 4, 6, 8, 19, 33, 38] [] (fr' := [(2, .slice h1.1 a2.length h1.2), (3, .pointer (some ⟨p0_0, 0, none⟩)), (4, .pointer (some ⟨p0_1, 0, none⟩)), (6, .pointer (some ⟨p0_2, 0, none⟩)), (8, .int .i64 x4_2), (19, .bool (decide ((a2.length : Int) > 20000))), (33, .bool true), (38, .pointer (some ⟨p7_6.1, 0 + x4_2.toNat * 3 + 1, none⟩))]) (bx' := [⟨p0_2, [.slice none 0 0], 24⟩, ⟨p0_1, [.string a1], 9⟩, ⟨p0_0, [.slice p1_1.1.1 x1_1.f0.length p1_1.1.2], 24⟩]) (by kernel_rfl) ?_
       refine O.q (v := .slice p7_6.2.1 x7_6.f1.length p7_6.2.2) (some 39) (Qu.loadR (t := 27) (x := .tmp 38) (hh := p1_1.1) (m := x1_1.f0.length) (i := x4_2.toNat) (u := .pointer (some ⟨p7_6.1, 0 + x4_2.toNat * 3 + 1, none⟩)) (r := .slice p7_6.2.1 x7_6.f1.length p7_6.2.2) (cs := [.string x7_6.f0, .slice p7_6.2.1 x7_6.f1.length p7_6.2.2, .int .i64 x7_6.f2]) 0 1 [p7_6.1, 0 + x4_2.toNat * 3 + 1] (by kernel_rfl) (by kernel_rfl) hp7_6A rfl (by kernel_rfl)) (by kernel_rfl) ?_
       refine O.pure 7 [] [2, 3, 4, 6, 8, 19] [] (fr' := [(2, .slice h1.1 a2.length h1.2), (3, .pointer (some ⟨p0_0, 0, none⟩)), (4, .pointer (some ⟨p0_1, 0, none⟩)), (6, .pointer (some ⟨p0_2, 0, none⟩)), (8, .int .i64 x4_2), (19, .bool (decide ((x7_6.f1.length : Int) > (IntKind.wrap .i64 (20000 - (a2.length : Int))))))]) (bx' := [⟨p0_2, [.slice none 0 0], 24⟩, ⟨p0_1, [.string a1], 9⟩, ⟨p0_0, [.slice p1_1.1.1 x1_1.f0.length p1_1.1.2], 24⟩]) (by kernel_rfl) ?_
       refine O.nil (by kernel_rfl) ?_
       refine J.mono (fun w hS => hS.unpk) ?_
       obtain rfl := Option.some.inj H
       exact J.conv2 [2, 3, 4, 6, 8, 19] [2, 3] [0, 1, 2] [0] (by kernel_rfl) (by kernel_rfl) (by kernel_rfl) (by kernel_rfl) (by decide) (hj3 ())
      ·refine J.region (by kernel_rfl) ?_
       refine O.pure 1 [] [2, 3, 4, 6, 8, 19, 31] [] (fr' := [(2, .slice h1.1 a2.length h1.2), (3, .pointer (some ⟨p0_0, 0, none⟩)), (4, .pointer (some ⟨p0_1, 0, none⟩)), (6, .pointer (some ⟨p0_2, 0, none⟩)), (8, .int .i64 x4_2), (19, .bool (decide ((a2.length : Int) > 20000))), (31, .int .i64 x4_2)]) (bx' := [⟨p0_2, [.slice none 0 0], 24⟩, ⟨p0_1, [.string a1], 9⟩, ⟨p0_0, [.slice p1_1.1.1 x1_1.f0.length p1_1.1.2], 24⟩]) (by kernel_rfl) ?_
       refine O.q (v := .bool false) (some 32) (Qu.eqv (u := .bool (decide (x4_2 ≥ 0))) (v := .bool false) (0, 0) [] (by kernel_rfl) (congrArg Value.bool hc13)) (by kernel_rfl) ?_
       refine O.pure 14 [] [2, 3, 4, 6, 8, 19] [] (fr' := [(2, .slice h1.1 a2.length h1.2), (3, .pointer (some ⟨p0_0, 0, none⟩)), (4, .pointer (some ⟨p0_1, 0, none⟩)), (6, .pointer (some ⟨p0_2, 0, none⟩)), (8, .int .i64 x4_2), (19, .bool false)]) (bx' := [⟨p0_2, [.slice none 0 0], 24⟩, ⟨p0_1, [.string a1], 9⟩, ⟨p0_0, [.slice p1_1.1.1 x1_1.f0.length p1_1.1.2], 24⟩]) (by kernel_rfl) ?_
       refine O.nil (by kernel_rfl) ?_
       obtain rfl := Option.some.inj H
       exact J.conv2 [2, 3, 4, 6, 8, 19] [0, 1] [0, 1, 2] [0] (by kernel_rfl) (by kernel_rfl) (by kernel_rfl) (by kernel_rfl) (by decide) (hj3 ())
  ·refine J.region (by kernel_rfl) ?_
   refine O.pure 1 [] [2, 3, 4, 6, 8, 20] [] (fr' := [(2, .slice h1.1 a2.length h1.2), (3, .pointer (some ⟨p0_0, 0, none⟩)), (4, .pointer (some ⟨p0_1, 0, none⟩)), (6, .pointer (some ⟨p0_2, 0, none⟩)), (8, .int .i64 x4_2), (20, .int .i64 x4_2)]) (bx' := [⟨p0_2, [.slice none 0 0], 24⟩, ⟨p0_1, [.string a1], 9⟩, ⟨p0_0, [.slice p1_1.1.1 x1_1.f0.length p1_1.1.2], 24⟩]) (by kernel_rfl) ?_
   refine O.q (v := .bool false) (some 21) (Qu.eqv (u := .bool (decide (x4_2 < 0))) (v := .bool false) (0, 0) [] (by kernel_rfl) (congrArg Value.bool hc2)) (by kernel_rfl) ?_
   refine O.pure 7 [] [2, 3, 4, 6, 8, 19] [] (fr' := [(2, .slice h1.1 a2.length h1.2), (3, .pointer (some ⟨p0_0, 0, none⟩)), (4, .pointer (some ⟨p0_1, 0, none⟩)), (6, .pointer (some ⟨p0_2, 0, none⟩)), (8, .int .i64 x4_2), (19, .bool false)]) (bx' := [⟨p0_2, [.slice none 0 0], 24⟩, ⟨p0_1, [.string a1], 9⟩, ⟨p0_0, [.slice p1_1.1.1 x1_1.f0.length p1_1.1.2], 24⟩]) (by kernel_rfl) ?_
   refine O.nil (by kernel_rfl) ?_
   refine J.cond (o := .tmp 19) false (by kernel_rfl) (by kernel_rfl) ?_
   refine J.seq (by kernel_rfl) ?_
   refine J.region (by kernel_rfl) ?_
   refine O.pure 4 [] [2, 3, 4, 6, 8, 19] [] (fr' := [(2, .slice h1.1 a2.length h1.2), (3, .pointer (some ⟨p0_0, 0, none⟩)), (4, .pointer (some ⟨p0_1, 0, none⟩)), (6, .pointer (some ⟨p0_2, 0, none⟩)), (8, .int .i64 x4_2), (19, .bool (decide ((a2.length : Int) > 20000)))]) (bx' := [⟨p0_2, [.slice none 0 0], 24⟩, ⟨p0_1, [.string a1], 9⟩, ⟨p0_0, [.slice p1_1.1.1 x1_1.f0.length p1_1.1.2], 24⟩]) (by kernel_rfl) ?_
   refine O.nil (by kernel_rfl) ?_
   refine J.join (α := Bool) (γ := Unit) (fun o14 q14 => [(2, .slice h1.1 a2.length h1.2), (3, .pointer (some ⟨p0_0, 0, none⟩)), (4, .pointer (some ⟨p0_1, 0, none⟩)), (6, .pointer (some ⟨p0_2, 0, none⟩)), (8, .int .i64 x4_2), (19, .bool o14)]) (fun o14 q14 => St X w1_ (keys [⟨p0_2, [.slice none 0 0], 24⟩, ⟨p0_1, [.string a1], 9⟩, ⟨p0_0, [.slice h0.1 a0.f0.length h0.2], 24⟩] [mkRow (sh70.kdS p1_1.2) 70 (.slice p1_1.1.1 x1_1.f0.length p1_1.1.2) x1_1.f0]) [⟨p0_2, [.slice none 0 0], 24⟩, ⟨p0_1, [.string a1], 9⟩, ⟨p0_0, [.slice p1_1.1.1 x1_1.f0.length p1_1.1.2], 24⟩] [mkRow (sh70.kdS p1_1.2) 70 (.slice p1_1.1.1 x1_1.f0.length p1_1.1.2) x1_1.f0] [] [Rd kd70 h0.1 h0.2 a0.f0, Rd (Kd.int .u8) h1.1 h1.2 a2]) H (fun o14 q14 H => ?_) (fun o14 H hj14 => ?_)
   ·rcases condE H with ⟨hc17, H⟩ | ⟨hc17, H⟩
    ·refine J.condT (x := .tmp 19) (t := o14) (by kernel_rfl) (by kernel_rfl) hc17 ?_
     refine J.seq (by kernel_rfl) ?_
     refine J.region (by kernel_rfl) ?_
     refine O.pure 3 [(2, 0), (0, 0)] [6, 7] [p0_0, 0, p0_2, 0] (fr' := [(6, .pointer (some ⟨p0_2, 0, none⟩)), (7, .int .i64 3)]) (bx' := [⟨p0_2, [.slice p1_1.1.1 x1_1.f0.length p1_1.1.2], 24⟩, ⟨p0_1, [.string a1], 9⟩, ⟨p0_0, [.slice p1_1.1.1 x1_1.f0.length p1_1.1.2], 24⟩]) (by kernel_rfl) ?_
     refine O.nil (by kernel_rfl) ?_
     obtain rfl := Option.some.inj H
     refine J.mono (fun w hS => hS1_.unfocus hS) ?_
     refine J.mono (fun w hS => hS.impR (d := (sh70.kdS p1_1.2)) (d' := kd70) rfl (imp70 _)) ?_
     exact J.doneS [(0, 0)] [p0_2, 0] [] [] [0] p1_1.1 (vs := [.agg #[.slice p1_1.1.1 x1_1.f0.length p1_1.1.2], .int .i64 3]) (by kernel_rfl) (by kernel_rfl) (by kernel_rfl) (by kernel_rfl) (by kernel_rfl) (by decide)
    ·refine J.condF (x := .tmp 19) (t := o14) (by kernel_rfl) (by kernel_rfl) hc17 ?_
     refine J.seq (by kernel_rfl) ?_
     refine J.region (by kernel_rfl) ?_
     refine O.pure 1 [] [2, 3, 4, 6, 8, 48] [] (fr' := [(2, .slice h1.1 a2.length h1.2), (3, .pointer (some ⟨p0_0, 0, none⟩)), (4, .pointer (some ⟨p0_1, 0, none⟩)), (6, .pointer (some ⟨p0_2, 0, none⟩)), (8, .int .i64 x4_2), (48, .int .i64 x4_2)]) (bx' := [⟨p0_2, [.slice none 0 0], 24⟩, ⟨p0_1, [.string a1], 9⟩, ⟨p0_0, [.slice p1_1.1.1 x1_1.f0.length p1_1.1.2], 24⟩]) (by kernel_rfl) ?_
     refine O.q (v := .bool false) (some 49) (Qu.eqv (u := .bool (decide (x4_2 < 0))) (v := .bool false) (0, 0) [] (by kernel_rfl) (congrArg Value.bool hc2)) (by kernel_rfl) ?_
     refine O.pure 1 [] [2, 3, 4, 6, 8, 47] [] (fr' := [(2, .slice h1.1 a2.length h1.2), (3, .pointer (some ⟨p0_0, 0, none⟩)), (4, .pointer (some ⟨p0_1, 0, none⟩)), (6, .pointer (some ⟨p0_2, 0, none⟩)), (8, .int .i64 x4_2), (47, .bool false)]) (bx' := [⟨p0_2, [.slice none 0 0], 24⟩, ⟨p0_1, [.string a1], 9⟩, ⟨p0_0, [.slice p1_1.1.1 x1_1.f0.length p1_1.1.2], 24⟩]) (by kernel_rfl) ?_
     refine O.nil (by kernel_rfl) ?_
     refine J.cond (o := .tmp 47) false (by kernel_rfl) (by kernel_rfl) ?_
     refine J.skip (by kernel_rfl) ?_
     refine J.out ?_
     refine J.seq (by kernel_rfl) ?_
     obtain ⟨x15_6, hx15_6, H⟩ := bindE H
     obtain ⟨hx15_6a, hx15_6⟩ := idxE hx15_6
     obtain ⟨y15_10, hy15_10, H⟩ := bindE H
     have hy15_10a := (appE hy15_10).1
     obtain ⟨z15_10, hz15_10, H⟩ := bindE H
     refine J.mono (fun w hS => hS.pk) ?_
     refine J.peek (d := (sh70.kdS p1_1.2)) (hh := p1_1.1) (m := x1_1.f0.length) (i := x4_2) (by simpa only [List.length_set] using hx15_6) (opS70 p1_1.2 _) (fun p15_6 hp15_6A => ?_)
     refine J.drawS (by kernel_rfl) [(0, some 76, .pointer (some ⟨p0_0, 0, none⟩)), (1, some 77, .slice p1_1.1.1 x1_1.f0.length p1_1.1.2), (2, some 78, .int .i64 x4_2), (3, some 79, .pointer (some ⟨p0_0, 0, none⟩)), (4, some 80, .slice p1_1.1.1 x1_1.f0.length p1_1.1.2), (5, some 81, .int .i64 x4_2), (7, some 83, .pointer (some ⟨p15_6.1, 0 + x4_2.toNat * 3 + 1, none⟩)), (9, some 85, .slice h1.1 a2.length h1.2), (6, some 82, .pointer (some ⟨p15_6.1, 0 + x4_2.toNat * 3, none⟩)), (8, some 84, .slice p15_6.2.1 x15_6.f1.length p15_6.2.2)] ([0, 1, 2, 3, 4, 5, 7, 9] ++ [6, 8]) (by kernel_rfl) ?_
     refine D.mid (cs := [10]) [0, 1, 2, 3, 4, 5, 7, 9] [6, 8] [(2, 0), (2, 0)] [p0_0, 0, p0_0, 0] (by kernel_rfl) (by kernel_rfl) (⟨QuAt.mk (v := .pointer (some ⟨p15_6.1, 0 + x4_2.toNat * 3, none⟩)) (some 82) (by kernel_rfl) (by kernel_rfl) (Qu.idx (t := 22) (x := .tmp 80) (y := .tmp 81) (len := x1_1.f0.length) (c := p1_1.1.2) (kk := .i64) (sz := 3) (by kernel_rfl) (by kernel_rfl) (by kernel_rfl) (by kernel_rfl) hx15_6a (by have := idx_lt hx15_6; simpa only [List.length_set, List.length_replicate] using this) hp15_6A), QuAt.mk (v := .slice p15_6.2.1 x15_6.f1.length p15_6.2.2) (some 84) (by kernel_rfl) (by kernel_rfl) (Qu.loadR (t := 27) (x := .tmp 83) (hh := p1_1.1) (m := x1_1.f0.length) (i := x4_2.toNat) (u := .pointer (some ⟨p15_6.1, 0 + x4_2.toNat * 3 + 1, none⟩)) (r := .slice p15_6.2.1 x15_6.f1.length p15_6.2.2) (cs := [.string x15_6.f0, .slice p15_6.2.1 x15_6.f1.length p15_6.2.2, .int .i64 x15_6.f2]) 0 1 [p15_6.1, 0 + x4_2.toNat * 3 + 1] (by kernel_rfl) (by kernel_rfl) hp15_6A rfl (by kernel_rfl)), trivial⟩) (by kernel_rfl) ⟨?_, trivial⟩
     refine EvStep.mk (some 86) (new := fun p15_10 => [(11, some 87, .pointer (some ⟨p15_6.1, 0 + x4_2.toNat * 3, none⟩)), (12, some 88, .pointer (some ⟨p15_6.1, 0 + x4_2.toNat * 3 + 1, none⟩))]) ([0, 1, 2, 3, 4, 5, 7, 12] ++ [6, 11]) (by kernel_rfl) (Ev.mono' (fun q w hS => hS.freezeH (h := q) (xs := (x15_6.f1 ++ a2))) (Ev.mono (fun w hS => St.thaw sh70 (eF := 70) (e := 5) (h := p15_6.2) (i := x4_2.toNat) (x := x15_6) hSe_ hS1_ hDp_ hout_ hS 0 hx15_6 (hS.now 1 rfl) rfl (fun y_ : S70 => y_.f0.toList ≠ x15_6.f0.toList) (fun j y hy hpy => ⟨fun hj => hpy (by subst hj; rw [hx15_6] at hy; rw [Option.some.inj hy]), fun hyx => hpy (by rw [hyx])⟩)) (Ev.appSl (d := (Kd.int .u8)) (ys := a2) (A := h1.1) (c := h1.2) (x := .tmp 84) (y := .tmp 85) (t := 27) (bytes := 1) 1 (by kernel_rfl) (by kernel_rfl) (by kernel_rfl) rfl (by kernel_rfl) (by decide) hy15_10a))) (fun p15_10 => by kernel_rfl) (fun p15_10 => ?_)
     refine D.mid (cs := [13]) [0, 1, 2, 3, 4, 5, 7, 12] [6, 11] [(2, 0), (2, 0)] [p0_0, 0, p0_0, 0] (by kernel_rfl) (by kernel_rfl) (⟨QuAt.mk (v := .pointer (some ⟨p15_6.1, 0 + x4_2.toNat * 3, none⟩)) (some 82) (by kernel_rfl) (by kernel_rfl) (Qu.idx (t := 22) (x := .tmp 80) (y := .tmp 81) (len := x1_1.f0.length) (c := p1_1.1.2) (kk := .i64) (sz := 3) (by kernel_rfl) (by kernel_rfl) (by kernel_rfl) (by kernel_rfl) hx15_6a (by have := idx_lt hx15_6; simpa only [List.length_set, List.length_replicate] using this) hp15_6A), QuAt.mk (v := .pointer (some ⟨p15_6.1, 0 + x4_2.toNat * 3, none⟩)) (some 87) (by kernel_rfl) (by kernel_rfl) (Qu.idx (t := 22) (x := .tmp 77) (y := .tmp 78) (len := x1_1.f0.length) (c := p1_1.1.2) (kk := .i64) (sz := 3) (by kernel_rfl) (by kernel_rfl) (by kernel_rfl) (by kernel_rfl) hx15_6a (by have := idx_lt hx15_6; simpa only [List.length_set, List.length_replicate] using this) hp15_6A), trivial⟩) (by kernel_rfl) ⟨?_, trivial⟩
     refine EvStep.mk none (new := fun _ => []) ([] ++ [11]) (by kernel_rfl) (Ev.storeR (t := 27) (x := .tmp 88) (y := .tmp 86) (hh := p1_1.1) (m := x1_1.f0.length) (g := p15_6.1) (i := x4_2.toNat) (f := 1) (s := 1) (u := .pointer (some ⟨p15_6.1, 0 + x4_2.toNat * 3 + 1, none⟩)) (z := .slice p15_10.1 (x15_6.f1 ++ a2).length p15_10.2) (cs := [.string x15_6.f0, .slice p15_6.2.1 x15_6.f1.length p15_6.2.2, .int .i64 x15_6.f2]) (ncs := [.string x15_6.f0, .slice p15_10.1 (x15_6.f1 ++ a2).length p15_10.2, .int .i64 x15_6.f2]) (⟨x15_6.f0, (x15_6.f1 ++ a2), x15_6.f2⟩ : S70) (some 0) (by kernel_rfl) (by kernel_rfl) rfl (by kernel_rfl) hp15_6A (by have := idx_lt hx15_6; simpa only [List.length_set] using this) ⟨by kernel_rfl, by kernel_rfl, by kernel_rfl, by kernel_rfl⟩ rfl (by kernel_rfl) (fun w' hφ => ⟨p15_10, rfl, trivial, fun hn => absurd rfl hn⟩)) (fun _ => by kernel_rfl) (fun _ => ?_)
     refine D.fin (fr' := [(3, .pointer (some ⟨p0_0, 0, none⟩)), (6, .pointer (some ⟨p0_2, 0, none⟩))]) [] [11] [] [] [3, 6] (by kernel_rfl) (by kernel_rfl) (⟨QuAt.mk (v := .pointer (some ⟨p15_6.1, 0 + x4_2.toNat * 3, none⟩)) (some 87) (by kernel_rfl) (by kernel_rfl) (Qu.idx (t := 22) (x := .tmp 77) (y := .tmp 78) (len := x1_1.f0.length) (c := p1_1.1.2) (kk := .i64) (sz := 3) (by kernel_rfl) (by kernel_rfl) (by kernel_rfl) (by kernel_rfl) hx15_6a (by have := idx_lt hx15_6; simpa only [List.length_set, List.length_replicate] using this) hp15_6A), trivial⟩) (by kernel_rfl) ?_
     refine J.mono (fun w hS => St.whole sh70 kd70 rfl (fun w x h hr => ⟨h, rfl, hr⟩) (x := (⟨x15_6.f0, (x15_6.f1 ++ a2), x15_6.f2⟩ : S70)) (q := p15_10) (j := 0) hS (List.getElem?_set_self (idx_lt hx15_6)) (fun k y hk hne => by rw [List.getElem?_set_ne (Ne.symm hne)] at hk; exact sepE hz15_10 k y x15_6 hk hx15_6 hne) rfl) ?_
     refine J.renS [3, 6] (fr1 := [(3, .pointer (some ⟨p0_0, 0, none⟩)), (6, .pointer (some ⟨p0_2, 0, none⟩))]) (bx1 := [⟨p0_2, [.slice none 0 0], 24⟩, ⟨p0_1, [.string a1], 9⟩, ⟨p0_0, [.slice p1_1.1.1 x1_1.f0.length p1_1.1.2], 24⟩]) (rw1 := [mkRow kd70 70 (.slice p1_1.1.1 x1_1.f0.length p1_1.1.2) (x1_1.f0.set x4_2.toNat (⟨x15_6.f0, (x15_6.f1 ++ a2), x15_6.f2⟩ : S70))]) (fr' := [(3, .pointer (some ⟨p0_0, 0, none⟩)), (6, .pointer (some ⟨p0_2, 0, none⟩))]) (bx' := [⟨p0_2, [.slice none 0 0], 24⟩, ⟨p0_1, [.string a1], 9⟩, ⟨p0_0, [.slice p1_1.1.1 (x1_1.f0.set x4_2.toNat (⟨x15_6.f0, (x15_6.f1 ++ a2), x15_6.f2⟩ : S70)).length p1_1.1.2], 24⟩]) (rw' := [mkRow kd70 70 (.slice p1_1.1.1 (x1_1.f0.set x4_2.toNat (⟨x15_6.f0, (x15_6.f1 ++ a2), x15_6.f2⟩ : S70)).length p1_1.1.2) (x1_1.f0.set x4_2.toNat (⟨x15_6.f0, (x15_6.f1 ++ a2), x15_6.f2⟩ : S70))]) (by kernel_rfl) (by kernel_rfl) (by simp only [List.length_set, List.length_replicate]) ?_
     refine J.seq (by kernel_rfl) ?_
     refine J.region (by kernel_rfl) ?_
     refine O.pure 3 [(2, 0), (0, 0)] [6, 7] [p0_0, 0, p0_2, 0] (fr' := [(6, .pointer (some ⟨p0_2, 0, none⟩)), (7, .int .i64 0)]) (bx' := [⟨p0_2, [.slice p1_1.1.1 (x1_1.f0.set x4_2.toNat (⟨x15_6.f0, (x15_6.f1 ++ a2), x15_6.f2⟩ : S70)).length p1_1.1.2], 24⟩, ⟨p0_1, [.string a1], 9⟩, ⟨p0_0, [.slice p1_1.1.1 (x1_1.f0.set x4_2.toNat (⟨x15_6.f0, (x15_6.f1 ++ a2), x15_6.f2⟩ : S70)).length p1_1.1.2], 24⟩]) (by kernel_rfl) ?_
     refine O.nil (by kernel_rfl) ?_
     obtain rfl := Option.some.inj H
     exact J.doneS [(0, 0)] [p0_2, 0] [] [] [0] p1_1.1 (vs := [.agg #[.slice p1_1.1.1 (x1_1.f0.set x4_2.toNat (⟨x15_6.f0, (x15_6.f1 ++ a2), x15_6.f2⟩ : S70)).length p1_1.1.2], .int .i64 0]) (by kernel_rfl) (by kernel_rfl) (by kernel_rfl) (by kernel_rfl) (by kernel_rfl) (by decide)
   ·rcases condE H with ⟨hc18, H⟩ | ⟨hc18, H⟩
    ·refine J.condT (x := .tmp 19) (t := (decide ((a2.length : Int) > 20000))) (by kernel_rfl) (by kernel_rfl) hc18 ?_
     refine J.skip (by kernel_rfl) ?_
     obtain rfl := Option.some.inj H
     exact J.conv2 [2, 3, 4, 6, 8, 19] [0, 1] [0, 1, 2] [0] (by kernel_rfl) (by kernel_rfl) (by kernel_rfl) (by kernel_rfl) (by decide) (hj14 ())
    ·refine J.condF (x := .tmp 19) (t := (decide ((a2.length : Int) > 20000))) (by kernel_rfl) (by kernel_rfl) hc18 ?_
     rcases condE H with ⟨hc19, H⟩ | ⟨hc19, H⟩
     ·obtain ⟨x7_6, hx7_6, H⟩ := bindE H
      obtain ⟨hx7_6a, hx7_6⟩ := idxE hx7_6
      refine J.region (by kernel_rfl) ?_
      refine O.pure 1 [] [2, 3, 4, 6, 8, 19, 31] [] (fr' := [(2, .slice h1.1 a2.length h1.2), (3, .pointer (some ⟨p0_0, 0, none⟩)), (4, .pointer (some ⟨p0_1, 0, none⟩)), (6, .pointer (some ⟨p0_2, 0, none⟩)), (8, .int .i64 x4_2), (19, .bool (decide ((a2.length : Int) > 20000))), (31, .int .i64 x4_2)]) (bx' := [⟨p0_2, [.slice none 0 0], 24⟩, ⟨p0_1, [.string a1], 9⟩, ⟨p0_0, [.slice p1_1.1.1 x1_1.f0.length p1_1.1.2], 24⟩]) (by kernel_rfl) ?_
      refine O.q (v := .bool true) (some 32) (Qu.eqv (u := .bool (decide (x4_2 ≥ 0))) (v := .bool true) (0, 0) [] (by kernel_rfl) (congrArg Value.bool hc19)) (by kernel_rfl) ?_
      refine O.pure 4 [(2, 0)] [2, 3, 4, 6, 8, 19, 33, 35, 36] [p0_0, 0] (fr' := [(2, .slice h1.1 a2.length h1.2), (3, .pointer (some ⟨p0_0, 0, none⟩)), (4, .pointer (some ⟨p0_1, 0, none⟩)), (6, .pointer (some ⟨p0_2, 0, none⟩)), (8, .int .i64 x4_2), (19, .bool (decide ((a2.length : Int) > 20000))), (33, .bool true), (35, .slice p1_1.1.1 x1_1.f0.length p1_1.1.2), (36, .int .i64 x4_2)]) (bx' := [⟨p0_2, [.slice none 0 0], 24⟩, ⟨p0_1, [.string a1], 9⟩, ⟨p0_0, [.slice p1_1.1.1 x1_1.f0.length p1_1.1.2], 24⟩]) (by kernel_rfl) ?_
      refine O.mono (fun w hS => hS.pk) ?_
      refine O.peek (d := (sh70.kdS p1_1.2)) (hh := p1_1.1) (m := x1_1.f0.length) (i := x4_2) (by simpa only [List.length_set] using hx7_6) (opS70 p1_1.2 _) (fun p7_6 hp7_6A => ?_)
      refine O.q (v := .pointer (some ⟨p7_6.1, 0 + x4_2.toNat * 3, none⟩)) (some 37) (Qu.idx (t := 22) (x := .tmp 35) (y := .tmp 36) (len := x1_1.f0.length) (c := p1_1.1.2) (kk := .i64) (sz := 3) (by kernel_rfl) (by kernel_rfl) (by kernel_rfl) (by kernel_rfl) hx7_6a (by have := idx_lt hx7_6; simpa only [List.length_set, List.length_replicate] using this) hp7_6A) (by kernel_rfl) ?_
      refine O.pure 1 [] [2, 3, 4, 6, 8, 19, 33, 38] [] (fr' := [(2, .slice h1.1 a2.length h1.2), (3, .pointer (some ⟨p0_0, 0, none⟩)), (4, .pointer (some ⟨p0_1, 0, none⟩)), (6, .pointer (some ⟨p0_2, 0, none⟩)), (8, .int .i64 x4_2), (19, .bool (decide ((a2.length : Int) > 20000))), (33, .bool true), (38, .pointer (some ⟨p7_6.1, 0 + x4_2.toNat * 3 + 1, none⟩))]) (bx' := [⟨p0_2, [.slice none 0 0], 24⟩, ⟨p0_1, [.string a1], 9⟩, ⟨p0_0, [.slice p1_1.1.1 x1_1.f0.length p1_1.1.2], 24⟩]) (by kernel_rfl) ?_
      refine O.q (v := .slice p7_6.2.1 x7_6.f1.length p7_6.2.2) (some 39) (Qu.loadR (t := 27) (x := .tmp 38) (hh := p1_1.1) (m := x1_1.f0.length) (i := x4_2.toNat) (u := .pointer (some ⟨p7_6.1, 0 + x4_2.toNat * 3 + 1, none⟩)) (r := .slice p7_6.2.1 x7_6.f1.length p7_6.2.2) (cs := [.string x7_6.f0, .slice p7_6.2.1 x7_6.f1.length p7_6.2.2, .int .i64 x7_6.f2]) 0 1 [p7_6.1, 0 + x4_2.toNat * 3 + 1] (by kernel_rfl) (by kernel_rfl) hp7_6A rfl (by kernel_rfl)) (by kernel_rfl) ?_
      refine O.pure 7 [] [2, 3, 4, 6, 8, 19] [] (fr' := [(2, .slice h1.1 a2.length h1.2), (3, .pointer (some ⟨p0_0, 0, none⟩)), (4, .pointer (some ⟨p0_1, 0, none⟩)), (6, .pointer (some ⟨p0_2, 0, none⟩)), (8, .int .i64 x4_2), (19, .bool (decide ((x7_6.f1.length : Int) > (IntKind.wrap .i64 (20000 - (a2.length : Int))))))]) (bx' := [⟨p0_2, [.slice none 0 0], 24⟩, ⟨p0_1, [.string a1], 9⟩, ⟨p0_0, [.slice p1_1.1.1 x1_1.f0.length p1_1.1.2], 24⟩]) (by kernel_rfl) ?_
      refine O.nil (by kernel_rfl) ?_
      refine J.mono (fun w hS => hS.unpk) ?_
      obtain rfl := Option.some.inj H
      exact J.conv2 [2, 3, 4, 6, 8, 19] [2, 3] [0, 1, 2] [0] (by kernel_rfl) (by kernel_rfl) (by kernel_rfl) (by kernel_rfl) (by decide) (hj14 ())
     ·refine J.region (by kernel_rfl) ?_
      refine O.pure 1 [] [2, 3, 4, 6, 8, 19, 31] [] (fr' := [(2, .slice h1.1 a2.length h1.2), (3, .pointer (some ⟨p0_0, 0, none⟩)), (4, .pointer (some ⟨p0_1, 0, none⟩)), (6, .pointer (some ⟨p0_2, 0, none⟩)), (8, .int .i64 x4_2), (19, .bool (decide ((a2.length : Int) > 20000))), (31, .int .i64 x4_2)]) (bx' := [⟨p0_2, [.slice none 0 0], 24⟩, ⟨p0_1, [.string a1], 9⟩, ⟨p0_0, [.slice p1_1.1.1 x1_1.f0.length p1_1.1.2], 24⟩]) (by kernel_rfl) ?_
      refine O.q (v := .bool false) (some 32) (Qu.eqv (u := .bool (decide (x4_2 ≥ 0))) (v := .bool false) (0, 0) [] (by kernel_rfl) (congrArg Value.bool hc19)) (by kernel_rfl) ?_
      refine O.pure 14 [] [2, 3, 4, 6, 8, 19] [] (fr' := [(2, .slice h1.1 a2.length h1.2), (3, .pointer (some ⟨p0_0, 0, none⟩)), (4, .pointer (some ⟨p0_1, 0, none⟩)), (6, .pointer (some ⟨p0_2, 0, none⟩)), (8, .int .i64 x4_2), (19, .bool false)]) (bx' := [⟨p0_2, [.slice none 0 0], 24⟩, ⟨p0_1, [.string a1], 9⟩, ⟨p0_0, [.slice p1_1.1.1 x1_1.f0.length p1_1.1.2], 24⟩]) (by kernel_rfl) ?_
      refine O.nil (by kernel_rfl) ?_
      obtain rfl := Option.some.inj H
      exact J.conv2 [2, 3, 4, 6, 8, 19] [0, 1] [0, 1, 2] [0] (by kernel_rfl) (by kernel_rfl) (by kernel_rfl) (by kernel_rfl) (by decide) (hj14 ())
/-! ### (haywain/ckpt.Change).put: function 47 -/
def ckpt_Change__put_f47.f (K : Nat) (a0 : S48) (a1 : S24) : Option (S24 × Int) := (disk_Put.f K a1 a0.f1 a0.f2).bind fun x1_5 => some ((x1_5.1, x1_5.2))
set_option maxRecDepth 100000 in
set_option maxHeartbeats 1000000 in
theorem ckpt_Change__put_f47.con (K : Nat) (a0 : S48) (a1 : S24) (h0 : Hd) (h1 : Hd) (r : (S24 × Int)) (X : Nat → Nat → Prop) (w : World) (hS : St X w [] [] [] [] [Rd (Kd.int .u8) h0.1 h0.2 a0.f2, Rd kd70 h1.1 h1.2 a1.f0] w) (H : ckpt_Change__put_f47.f K a0 a1 = some r) :
    Cn Try.prog 47 [.agg #[.int .i64 a0.f0, .string a0.f1, .slice h0.1 a0.f2.length h0.2], .agg #[.slice h1.1 a1.f0.length h1.2]] X w [] (fun i : Hd => .tuple #[.agg #[.slice i.1 r.1.f0.length i.2], .int .i64 r.2]) (fun i => []) (fun i => [mkRow kd70 70 (.slice i.1 r.1.f0.length i.2) r.1.f0]) (fun i => []) := by
 refine Cn.of Try.func47 (by kernel_rfl) hS ?_
 unfold ckpt_Change__put_f47.f at H
 refine J.seq (by kernel_rfl) ?_
 refine J.region (by kernel_rfl) ?_
 refine O.e (some 2) (Ev.box (t := 48) (x := .tmp 0) (v := .agg #[.int .i64 a0.f0, .string a0.f1, .slice h0.1 a0.f2.length h0.2]) (by kernel_rfl) (by kernel_rfl)) (by kernel_rfl) (fun p0_0 => ?_)
 refine O.e (some 3) (Ev.box (t := 24) (x := .tmp 1) (v := .agg #[.slice h1.1 a1.f0.length h1.2]) (by kernel_rfl) (by kernel_rfl)) (by kernel_rfl) (fun p0_1 => ?_)
 refine O.e (some 4) (Ev.alloc (t := 24) (z := .agg #[.slice none 0 0]) (by kernel_rfl) (by kernel_rfl)) (by kernel_rfl) (fun p0_2 => ?_)
 refine O.pure 1 [] [2, 3, 4] [] (fr' := [(2, .pointer (some ⟨p0_0, 0, none⟩)), (3, .pointer (some ⟨p0_1, 0, none⟩)), (4, .pointer (some ⟨p0_2, 0, none⟩))]) (bx' := [⟨p0_2, [.slice none 0 0], 24⟩, ⟨p0_1, [.slice h1.1 a1.f0.length h1.2], 24⟩, ⟨p0_0, [.int .i64 a0.f0, .string a0.f1, .slice h0.1 a0.f2.length h0.2], 48⟩]) (by kernel_rfl) ?_
 refine O.nil (by kernel_rfl) ?_
 refine J.seq (by kernel_rfl) ?_
 obtain ⟨x1_5, hx1_5, H⟩ := bindE H
 refine J.region (by kernel_rfl) ?_
 refine O.pure 5 [(1, 0), (2, 1), (2, 2)] [4, 6, 8, 10] [p0_1, 0, p0_0, 1, p0_0, 2] (fr' := [(4, .pointer (some ⟨p0_2, 0, none⟩)), (6, .agg #[.slice h1.1 a1.f0.length h1.2]), (8, .string a0.f1), (10, .slice h0.1 a0.f2.length h0.2)]) (bx' := [⟨p0_2, [.slice none 0 0], 24⟩, ⟨p0_1, [.slice h1.1 a1.f0.length h1.2], 24⟩, ⟨p0_0, [.int .i64 a0.f0, .string a0.f1, .slice h0.1 a0.f2.length h0.2], 48⟩]) (by kernel_rfl) ?_
 refine O.e (some 11) (Ev.call0 (xs := [.tmp 6, .tmp 8, .tmp 10]) [1, 0] (by kernel_rfl) (by kernel_rfl) (fun w hS => disk_Put.con K a1 a0.f1 a0.f2 h1 h0  _ _ w hS hx1_5)) (by kernel_rfl) (fun p1_5 => ?_)
 refine O.pure 4 [(0, 0)] [4, 5] [p0_2, 0] (fr' := [(4, .pointer (some ⟨p0_2, 0, none⟩)), (5, .int .i64 x1_5.2)]) (bx' := [⟨p0_2, [.slice p1_5.1 x1_5.1.f0.length p1_5.2], 24⟩, ⟨p0_1, [.slice h1.1 a1.f0.length h1.2], 24⟩, ⟨p0_0, [.int .i64 a0.f0, .string a0.f1, .slice h0.1 a0.f2.length h0.2], 48⟩]) (by kernel_rfl) ?_
 refine O.nil (by kernel_rfl) ?_
 obtain rfl := Option.some.inj H
 exact J.doneS [(0, 0)] [p0_2, 0] [] [] [0] p1_5 (vs := [.agg #[.slice p1_5.1 x1_5.1.f0.length p1_5.2], .int .i64 x1_5.2]) (by kernel_rfl) (by kernel_rfl) (by kernel_rfl) (by kernel_rfl) (by kernel_rfl) (by decide)
/-! ### haywain/disk.Sync: function 67 -/
def disk_Sync_f67.f (K : Nat) (a0 : S24) (a1 : ByteArray) : Option (S24 × Int) := (disk_own.f K a0).bind fun x1_1 => (disk_at.f K x1_1 a1).bind fun x2_2 => cond (decide (x2_2 < 0)) (some ((x1_1, 4))) ((idxO x1_1.f0 x2_2).bind fun x5_6 => some (((⟨(x1_1.f0.set x2_2.toNat (⟨x5_6.f0, x5_6.f1, (x5_6.f1.length : Int)⟩ : S70))⟩ : S24), 0)))
set_option maxRecDepth 100000 in
set_option maxHeartbeats 1000000 in
theorem disk_Sync_f67.con (K : Nat) (a0 : S24) (a1 : ByteArray) (h0 : Hd) (r : (S24 × Int)) (X : Nat → Nat → Prop) (w : World) (hS : St X w [] [] [] [] [Rd kd70 h0.1 h0.2 a0.f0] w) (H : disk_Sync_f67.f K a0 a1 = some r) :
    Cn Try.prog 67 [.agg #[.slice h0.1 a0.f0.length h0.2], .string a1] X w [] (fun i : Hd => .tuple #[.agg #[.slice i.1 r.1.f0.length i.2], .int .i64 r.2]) (fun i => []) (fun i => [mkRow kd70 70 (.slice i.1 r.1.f0.length i.2) r.1.f0]) (fun i => []) := by
 refine Cn.of Try.func67 (by kernel_rfl) hS ?_
 unfold disk_Sync_f67.f at H
 refine J.seq (by kernel_rfl) ?_
 refine J.region (by kernel_rfl) ?_
 refine O.e (some 2) (Ev.box (t := 24) (x := .tmp 0) (v := .agg #[.slice h0.1 a0.f0.length h0.2]) (by kernel_rfl) (by kernel_rfl)) (by kernel_rfl) (fun p0_0 => ?_)
 refine O.e (some 4) (Ev.alloc (t := 24) (z := .agg #[.slice none 0 0]) (by kernel_rfl) (by kernel_rfl)) (by kernel_rfl) (fun p0_1 => ?_)
 refine O.pure 1 [] [1, 2, 4] [] (fr' := [(1, .string a1), (2, .pointer (some ⟨p0_0, 0, none⟩)), (4, .pointer (some ⟨p0_1, 0, none⟩))]) (bx' := [⟨p0_1, [.slice none 0 0], 24⟩, ⟨p0_0, [.slice h0.1 a0.f0.length h0.2], 24⟩]) (by kernel_rfl) ?_
 refine O.nil (by kernel_rfl) ?_
 refine J.seq (by kernel_rfl) ?_
 obtain ⟨x1_1, hx1_1, H⟩ := bindE H
 refine J.region (by kernel_rfl) ?_
 refine O.pure 1 [(1, 0)] [1, 2, 4, 7] [p0_0, 0] (fr' := [(1, .string a1), (2, .pointer (some ⟨p0_0, 0, none⟩)), (4, .pointer (some ⟨p0_1, 0, none⟩)), (7, .agg #[.slice h0.1 a0.f0.length h0.2])]) (bx' := [⟨p0_1, [.slice none 0 0], 24⟩, ⟨p0_0, [.slice h0.1 a0.f0.length h0.2], 24⟩]) (by kernel_rfl) ?_
 refine O.e (some 8) (Ev.call0 (xs := [.tmp 7]) [0] (by kernel_rfl) (by kernel_rfl) (fun w hS => disk_own.con K a0 h0  _ _ w hS hx1_1)) (by kernel_rfl) (fun p1_1 => ?_)
 refine O.pure 1 [(1, 0)] [1, 2, 4] [p0_0, 0] (fr' := [(1, .string a1), (2, .pointer (some ⟨p0_0, 0, none⟩)), (4, .pointer (some ⟨p0_1, 0, none⟩))]) (bx' := [⟨p0_1, [.slice none 0 0], 24⟩, ⟨p0_0, [.slice p1_1.1 x1_1.f0.length p1_1.2], 24⟩]) (by kernel_rfl) ?_
 refine O.nil (by kernel_rfl) ?_
 refine J.seq (by kernel_rfl) ?_
 obtain ⟨x2_2, hx2_2, H⟩ := bindE H
 refine J.region (by kernel_rfl) ?_
 refine O.pure 2 [(1, 0)] [2, 4, 9, 10] [p0_0, 0] (fr' := [(2, .pointer (some ⟨p0_0, 0, none⟩)), (4, .pointer (some ⟨p0_1, 0, none⟩)), (9, .agg #[.slice p1_1.1 x1_1.f0.length p1_1.2]), (10, .string a1)]) (bx' := [⟨p0_1, [.slice none 0 0], 24⟩, ⟨p0_0, [.slice p1_1.1 x1_1.f0.length p1_1.2], 24⟩]) (by kernel_rfl) ?_
 refine O.e (some 11) (Ev.callLb (xs1 := [.tmp 9, .tmp 10]) [0] (fun w hS => (hS.rowsel [0] rfl (by decide)).freezeL (hh := p1_1) (m := x1_1.f0.length) (xs := x1_1.f0) rfl) (by kernel_rfl) (by kernel_rfl) (fun _ q hq => by cases hq) (fun w hS => disk_at.con K x1_1 a1 p1_1  _ _ w hS hx2_2)) (by kernel_rfl) (fun _ => ?_)
 refine O.pure 1 [] [2, 4, 6] [] (fr' := [(2, .pointer (some ⟨p0_0, 0, none⟩)), (4, .pointer (some ⟨p0_1, 0, none⟩)), (6, .int .i64 x2_2)]) (bx' := [⟨p0_1, [.slice none 0 0], 24⟩, ⟨p0_0, [.slice p1_1.1 x1_1.f0.length p1_1.2], 24⟩]) (by kernel_rfl) ?_
 refine O.nil (by kernel_rfl) ?_
 refine J.seq (by kernel_rfl) ?_
 refine J.seq (by kernel_rfl) ?_
 refine J.region (by kernel_rfl) ?_
 refine O.pure 2 [] [2, 4, 6, 13] [] (fr' := [(2, .pointer (some ⟨p0_0, 0, none⟩)), (4, .pointer (some ⟨p0_1, 0, none⟩)), (6, .int .i64 x2_2), (13, .bool (decide (x2_2 < 0)))]) (bx' := [⟨p0_1, [.slice none 0 0], 24⟩, ⟨p0_0, [.slice p1_1.1 x1_1.f0.length p1_1.2], 24⟩]) (by kernel_rfl) ?_
 refine O.nil (by kernel_rfl) ?_
 rcases condE H with ⟨hc1, H⟩ | ⟨hc1, H⟩
 ·refine J.condT (x := .tmp 13) (t := (decide (x2_2 < 0))) (by kernel_rfl) (by kernel_rfl) hc1 ?_
  refine J.seq (by kernel_rfl) ?_
  refine J.region (by kernel_rfl) ?_
  refine O.pure 3 [(1, 0), (0, 0)] [4, 5] [p0_0, 0, p0_1, 0] (fr' := [(4, .pointer (some ⟨p0_1, 0, none⟩)), (5, .int .i64 4)]) (bx' := [⟨p0_1, [.slice p1_1.1 x1_1.f0.length p1_1.2], 24⟩, ⟨p0_0, [.slice p1_1.1 x1_1.f0.length p1_1.2], 24⟩]) (by kernel_rfl) ?_
  refine O.nil (by kernel_rfl) ?_
  obtain rfl := Option.some.inj H
  exact J.doneS [(0, 0)] [p0_1, 0] [] [] [0] p1_1 (vs := [.agg #[.slice p1_1.1 x1_1.f0.length p1_1.2], .int .i64 4]) (by kernel_rfl) (by kernel_rfl) (by kernel_rfl) (by kernel_rfl) (by kernel_rfl) (by decide)
 ·refine J.condF (x := .tmp 13) (t := (decide (x2_2 < 0))) (by kernel_rfl) (by kernel_rfl) hc1 ?_
  refine J.skip (by kernel_rfl) ?_
  refine J.seq (by kernel_rfl) ?_
  obtain ⟨x5_6, hx5_6, H⟩ := bindE H
  obtain ⟨hx5_6a, hx5_6⟩ := idxE hx5_6
  refine J.mono (fun w hS => hS.pk) ?_
  refine J.peek (d := kd70) (hh := p1_1) (m := x1_1.f0.length) (i := x2_2) (by simpa only [List.length_set] using hx5_6) (op70 _) (fun p5_6 hp5_6A => ?_)
  refine J.drawS (by kernel_rfl) [(0, some 15, .pointer (some ⟨p0_0, 0, none⟩)), (1, some 16, .slice p1_1.1 x1_1.f0.length p1_1.2), (2, some 17, .int .i64 x2_2), (3, some 18, .pointer (some ⟨p0_0, 0, none⟩)), (4, some 19, .slice p1_1.1 x1_1.f0.length p1_1.2), (5, some 20, .int .i64 x2_2), (7, some 22, .pointer (some ⟨p5_6.1, 0 + x2_2.toNat * 3 + 1, none⟩)), (9, some 24, .int .i64 (x5_6.f1.length : Int)), (11, some 26, .pointer (some ⟨p5_6.1, 0 + x2_2.toNat * 3 + 2, none⟩)), (6, some 21, .pointer (some ⟨p5_6.1, 0 + x2_2.toNat * 3, none⟩)), (8, some 23, .slice p5_6.2.1 x5_6.f1.length p5_6.2.2), (10, some 25, .pointer (some ⟨p5_6.1, 0 + x2_2.toNat * 3, none⟩))] ([0, 1, 2, 3, 4, 5, 7, 9, 11] ++ [6, 8, 10]) (by kernel_rfl) ?_
  refine D.mid (cs := [12]) [0, 1, 2, 3, 4, 5, 7, 9, 11] [6, 8, 10] [(1, 0), (1, 0)] [p0_0, 0, p0_0, 0] (by kernel_rfl) (by kernel_rfl) (⟨QuAt.mk (v := .pointer (some ⟨p5_6.1, 0 + x2_2.toNat * 3, none⟩)) (some 21) (by kernel_rfl) (by kernel_rfl) (Qu.idx (t := 22) (x := .tmp 19) (y := .tmp 20) (len := x1_1.f0.length) (c := p1_1.2) (kk := .i64) (sz := 3) (by kernel_rfl) (by kernel_rfl) (by kernel_rfl) (by kernel_rfl) hx5_6a (by have := idx_lt hx5_6; simpa only [List.length_set, List.length_replicate] using this) hp5_6A), QuAt.mk (v := .slice p5_6.2.1 x5_6.f1.length p5_6.2.2) (some 23) (by kernel_rfl) (by kernel_rfl) (Qu.loadR (t := 27) (x := .tmp 22) (hh := p1_1) (m := x1_1.f0.length) (i := x2_2.toNat) (u := .pointer (some ⟨p5_6.1, 0 + x2_2.toNat * 3 + 1, none⟩)) (r := .slice p5_6.2.1 x5_6.f1.length p5_6.2.2) (cs := [.string x5_6.f0, .slice p5_6.2.1 x5_6.f1.length p5_6.2.2, .int .i64 x5_6.f2]) 0 1 [p5_6.1, 0 + x2_2.toNat * 3 + 1] (by kernel_rfl) (by kernel_rfl) hp5_6A rfl (by kernel_rfl)), QuAt.mk (v := .pointer (some ⟨p5_6.1, 0 + x2_2.toNat * 3, none⟩)) (some 25) (by kernel_rfl) (by kernel_rfl) (Qu.idx (t := 22) (x := .tmp 16) (y := .tmp 17) (len := x1_1.f0.length) (c := p1_1.2) (kk := .i64) (sz := 3) (by kernel_rfl) (by kernel_rfl) (by kernel_rfl) (by kernel_rfl) hx5_6a (by have := idx_lt hx5_6; simpa only [List.length_set, List.length_replicate] using this) hp5_6A), trivial⟩) (by kernel_rfl) ⟨?_, trivial⟩
  refine EvStep.mk none (new := fun _ => []) ([] ++ [10]) (by kernel_rfl) (Ev.storeR (t := 3) (x := .tmp 26) (y := .tmp 24) (hh := p1_1) (m := x1_1.f0.length) (g := p5_6.1) (i := x2_2.toNat) (f := 2) (s := 1) (u := .pointer (some ⟨p5_6.1, 0 + x2_2.toNat * 3 + 2, none⟩)) (z := .int .i64 (x5_6.f1.length : Int)) (cs := [.string x5_6.f0, .slice p5_6.2.1 x5_6.f1.length p5_6.2.2, .int .i64 x5_6.f2]) (ncs := [.string x5_6.f0, .slice p5_6.2.1 x5_6.f1.length p5_6.2.2, .int .i64 (x5_6.f1.length : Int)]) (⟨x5_6.f0, x5_6.f1, (x5_6.f1.length : Int)⟩ : S70) (some 0) (by kernel_rfl) (by kernel_rfl) rfl (by kernel_rfl) hp5_6A (by have := idx_lt hx5_6; simpa only [List.length_set] using this) ⟨by kernel_rfl, by kernel_rfl, by kernel_rfl, by kernel_rfl⟩ rfl (by kernel_rfl) (fun w' hφ => ⟨p5_6.2, rfl, hφ _ (List.mem_of_getElem? (i := 0) rfl)⟩)) (fun _ => by kernel_rfl) (fun _ => ?_)
  refine D.fin (fr' := [(2, .pointer (some ⟨p0_0, 0, none⟩)), (4, .pointer (some ⟨p0_1, 0, none⟩))]) [] [10] [] [] [2, 4] (by kernel_rfl) (by kernel_rfl) (⟨QuAt.mk (v := .pointer (some ⟨p5_6.1, 0 + x2_2.toNat * 3, none⟩)) (some 25) (by kernel_rfl) (by kernel_rfl) (Qu.idx (t := 22) (x := .tmp 16) (y := .tmp 17) (len := x1_1.f0.length) (c := p1_1.2) (kk := .i64) (sz := 3) (by kernel_rfl) (by kernel_rfl) (by kernel_rfl) (by kernel_rfl) hx5_6a (by have := idx_lt hx5_6; simpa only [List.length_set, List.length_replicate] using this) hp5_6A), trivial⟩) (by kernel_rfl) ?_
  refine J.mono (fun w hS => hS.unpk) ?_
  refine J.renS [2, 4] (fr1 := [(2, .pointer (some ⟨p0_0, 0, none⟩)), (4, .pointer (some ⟨p0_1, 0, none⟩))]) (bx1 := [⟨p0_1, [.slice none 0 0], 24⟩, ⟨p0_0, [.slice p1_1.1 x1_1.f0.length p1_1.2], 24⟩]) (rw1 := [mkRow kd70 70 (.slice p1_1.1 x1_1.f0.length p1_1.2) (x1_1.f0.set x2_2.toNat (⟨x5_6.f0, x5_6.f1, (x5_6.f1.length : Int)⟩ : S70))]) (fr' := [(2, .pointer (some ⟨p0_0, 0, none⟩)), (4, .pointer (some ⟨p0_1, 0, none⟩))]) (bx' := [⟨p0_1, [.slice none 0 0], 24⟩, ⟨p0_0, [.slice p1_1.1 (x1_1.f0.set x2_2.toNat (⟨x5_6.f0, x5_6.f1, (x5_6.f1.length : Int)⟩ : S70)).length p1_1.2], 24⟩]) (rw' := [mkRow kd70 70 (.slice p1_1.1 (x1_1.f0.set x2_2.toNat (⟨x5_6.f0, x5_6.f1, (x5_6.f1.length : Int)⟩ : S70)).length p1_1.2) (x1_1.f0.set x2_2.toNat (⟨x5_6.f0, x5_6.f1, (x5_6.f1.length : Int)⟩ : S70))]) (by kernel_rfl) (by kernel_rfl) (by simp only [List.length_set, List.length_replicate]) ?_
  refine J.seq (by kernel_rfl) ?_
  refine J.region (by kernel_rfl) ?_
  refine O.pure 3 [(1, 0), (0, 0)] [4, 5] [p0_0, 0, p0_1, 0] (fr' := [(4, .pointer (some ⟨p0_1, 0, none⟩)), (5, .int .i64 0)]) (bx' := [⟨p0_1, [.slice p1_1.1 (x1_1.f0.set x2_2.toNat (⟨x5_6.f0, x5_6.f1, (x5_6.f1.length : Int)⟩ : S70)).length p1_1.2], 24⟩, ⟨p0_0, [.slice p1_1.1 (x1_1.f0.set x2_2.toNat (⟨x5_6.f0, x5_6.f1, (x5_6.f1.length : Int)⟩ : S70)).length p1_1.2], 24⟩]) (by kernel_rfl) ?_
  refine O.nil (by kernel_rfl) ?_
  obtain rfl := Option.some.inj H
  exact J.doneS [(0, 0)] [p0_1, 0] [] [] [0] p1_1 (vs := [.agg #[.slice p1_1.1 (x1_1.f0.set x2_2.toNat (⟨x5_6.f0, x5_6.f1, (x5_6.f1.length : Int)⟩ : S70)).length p1_1.2], .int .i64 0]) (by kernel_rfl) (by kernel_rfl) (by kernel_rfl) (by kernel_rfl) (by kernel_rfl) (by decide)
/-! ### (haywain/ckpt.Change).sync: function 48 -/
def ckpt_Change__sync_f48.f (K : Nat) (a0 : S48) (a1 : S24) : Option (S24 × Int) := (disk_Sync_f67.f K a1 a0.f1).bind fun x1_3 => some ((x1_3.1, x1_3.2))
set_option maxRecDepth 100000 in
set_option maxHeartbeats 1000000 in
theorem ckpt_Change__sync_f48.con (K : Nat) (a0 : S48) (a1 : S24) (h0 : Hd) (h1 : Hd) (r : (S24 × Int)) (X : Nat → Nat → Prop) (w : World) (hS : St X w [] [] [] [] [Rd (Kd.int .u8) h0.1 h0.2 a0.f2, Rd kd70 h1.1 h1.2 a1.f0] w) (H : ckpt_Change__sync_f48.f K a0 a1 = some r) :
    Cn Try.prog 48 [.agg #[.int .i64 a0.f0, .string a0.f1, .slice h0.1 a0.f2.length h0.2], .agg #[.slice h1.1 a1.f0.length h1.2]] X w [] (fun i : Hd => .tuple #[.agg #[.slice i.1 r.1.f0.length i.2], .int .i64 r.2]) (fun i => []) (fun i => [mkRow kd70 70 (.slice i.1 r.1.f0.length i.2) r.1.f0]) (fun i => []) := by
 refine Cn.of Try.func48 (by kernel_rfl) hS ?_
 unfold ckpt_Change__sync_f48.f at H
 refine J.seq (by kernel_rfl) ?_
 refine J.region (by kernel_rfl) ?_
 refine O.e (some 2) (Ev.box (t := 48) (x := .tmp 0) (v := .agg #[.int .i64 a0.f0, .string a0.f1, .slice h0.1 a0.f2.length h0.2]) (by kernel_rfl) (by kernel_rfl)) (by kernel_rfl) (fun p0_0 => ?_)
 refine O.e (some 3) (Ev.box (t := 24) (x := .tmp 1) (v := .agg #[.slice h1.1 a1.f0.length h1.2]) (by kernel_rfl) (by kernel_rfl)) (by kernel_rfl) (fun p0_1 => ?_)
 refine O.e (some 4) (Ev.alloc (t := 24) (z := .agg #[.slice none 0 0]) (by kernel_rfl) (by kernel_rfl)) (by kernel_rfl) (fun p0_2 => ?_)
 refine O.pure 1 [] [2, 3, 4] [] (fr' := [(2, .pointer (some ⟨p0_0, 0, none⟩)), (3, .pointer (some ⟨p0_1, 0, none⟩)), (4, .pointer (some ⟨p0_2, 0, none⟩))]) (bx' := [⟨p0_2, [.slice none 0 0], 24⟩, ⟨p0_1, [.slice h1.1 a1.f0.length h1.2], 24⟩, ⟨p0_0, [.int .i64 a0.f0, .string a0.f1, .slice h0.1 a0.f2.length h0.2], 48⟩]) (by kernel_rfl) ?_
 refine O.nil (by kernel_rfl) ?_
 refine J.seq (by kernel_rfl) ?_
 obtain ⟨x1_3, hx1_3, H⟩ := bindE H
 refine J.region (by kernel_rfl) ?_
 refine O.pure 3 [(1, 0), (2, 1)] [4, 6, 8] [p0_1, 0, p0_0, 1] (fr' := [(4, .pointer (some ⟨p0_2, 0, none⟩)), (6, .agg #[.slice h1.1 a1.f0.length h1.2]), (8, .string a0.f1)]) (bx' := [⟨p0_2, [.slice none 0 0], 24⟩, ⟨p0_1, [.slice h1.1 a1.f0.length h1.2], 24⟩, ⟨p0_0, [.int .i64 a0.f0, .string a0.f1, .slice h0.1 a0.f2.length h0.2], 48⟩]) (by kernel_rfl) ?_
 refine O.e (some 9) (Ev.call0 (xs := [.tmp 6, .tmp 8]) [1] (by kernel_rfl) (by kernel_rfl) (fun w hS => disk_Sync_f67.con K a1 a0.f1 h1  _ _ w hS hx1_3)) (by kernel_rfl) (fun p1_3 => ?_)
 refine O.pure 4 [(0, 0)] [4, 5] [p0_2, 0] (fr' := [(4, .pointer (some ⟨p0_2, 0, none⟩)), (5, .int .i64 x1_3.2)]) (bx' := [⟨p0_2, [.slice p1_3.1 x1_3.1.f0.length p1_3.2], 24⟩, ⟨p0_1, [.slice h1.1 a1.f0.length h1.2], 24⟩, ⟨p0_0, [.int .i64 a0.f0, .string a0.f1, .slice h0.1 a0.f2.length h0.2], 48⟩]) (by kernel_rfl) ?_
 refine O.nil (by kernel_rfl) ?_
 obtain rfl := Option.some.inj H
 exact J.doneS [(0, 0)] [p0_2, 0] [] [] [0] p1_3 (vs := [.agg #[.slice p1_3.1 x1_3.1.f0.length p1_3.2], .int .i64 x1_3.2]) (by kernel_rfl) (by kernel_rfl) (by kernel_rfl) (by kernel_rfl) (by kernel_rfl) (by decide)
/-! ### haywain/ckpt.Do: function 21 -/
def ckpt_Do.l1 (K : Nat) (a1 : List S48) (a2 : Int) : Nat → (Int × (List S70)) → Option (S24 × Int)
  | 0, _ => none
  | k + 1, s1 => cond (decide (s1.1 < (a1.length : Int))) (cond (decide (s1.1 < a2)) ((idxO a1 s1.1).bind fun x4_3 => cond (x4_3.f0 == 1) ((idxO a1 s1.1).bind fun x6_3 => (ckpt_Change__drop_f46.f K x6_3 (⟨s1.2⟩ : S24)).bind fun x6_6 => cond (x6_6.2 != 0) (some (((⟨s1.2⟩ : S24), s1.1))) (ckpt_Do.l1 K a1 a2 k ((IntKind.wrap .i64 (s1.1 + 1)), x6_6.1.f0))) (cond (x4_3.f0 == 2) ((idxO a1 s1.1).bind fun x6_3 => (ckpt_Change__put_f47.f K x6_3 (⟨s1.2⟩ : S24)).bind fun x6_6 => cond (x6_6.2 != 0) (some (((⟨s1.2⟩ : S24), s1.1))) (ckpt_Do.l1 K a1 a2 k ((IntKind.wrap .i64 (s1.1 + 1)), x6_6.1.f0))) (cond (x4_3.f0 == 3) ((idxO a1 s1.1).bind fun x6_3 => (ckpt_Change__sync_f48.f K x6_3 (⟨s1.2⟩ : S24)).bind fun x6_6 => cond (x6_6.2 != 0) (some (((⟨s1.2⟩ : S24), s1.1))) (ckpt_Do.l1 K a1 a2 k ((IntKind.wrap .i64 (s1.1 + 1)), x6_6.1.f0))) (some (((⟨s1.2⟩ : S24), s1.1)))))) (some (((⟨s1.2⟩ : S24), s1.1)))) (some (((⟨s1.2⟩ : S24), s1.1)))
def ckpt_Do.f (K : Nat) (a0 : S24) (a1 : List S48) (a2 : Int) : Option (S24 × Int) := ckpt_Do.l1 K a1 a2 K (0, a0.f0)
set_option maxRecDepth 100000 in
set_option maxHeartbeats 1000000 in
theorem ckpt_Do.con (K : Nat) (a0 : S24) (a1 : List S48) (a2 : Int) (h0 : Hd) (h1 : Hd) (r : (S24 × Int)) (X : Nat → Nat → Prop) (w : World) (hS : St X w [] [] [] [] [Rd kd70 h0.1 h0.2 a0.f0, Rd kd48 h1.1 h1.2 a1] w) (H : ckpt_Do.f K a0 a1 a2 = some r) :
    Cn Try.prog 21 [.agg #[.slice h0.1 a0.f0.length h0.2], .slice h1.1 a1.length h1.2, .int .i64 a2] X w [] (fun i : Hd => .tuple #[.agg #[.slice i.1 r.1.f0.length i.2], .int .i64 r.2]) (fun i => []) (fun i => []) (fun i => [Rd kd70 i.1 i.2 r.1.f0]) := by
 refine Cn.of Try.func21 (by kernel_rfl) hS ?_
 unfold ckpt_Do.f at H
 refine J.seq (by kernel_rfl) ?_
 refine J.region (by kernel_rfl) ?_
 refine O.e (some 3) (Ev.box (t := 24) (x := .tmp 0) (v := .agg #[.slice h0.1 a0.f0.length h0.2]) (by kernel_rfl) (by kernel_rfl)) (by kernel_rfl) (fun p0_0 => ?_)
 refine O.e (some 6) (Ev.alloc (t := 24) (z := .agg #[.slice none 0 0]) (by kernel_rfl) (by kernel_rfl)) (by kernel_rfl) (fun p0_1 => ?_)
 refine O.pure 1 [] [1, 2, 3, 6] [] (fr' := [(1, .slice h1.1 a1.length h1.2), (2, .int .i64 a2), (3, .pointer (some ⟨p0_0, 0, none⟩)), (6, .pointer (some ⟨p0_1, 0, none⟩))]) (bx' := [⟨p0_1, [.slice none 0 0], 24⟩, ⟨p0_0, [.slice h0.1 a0.f0.length h0.2], 24⟩]) (by kernel_rfl) ?_
 refine O.nil (by kernel_rfl) ?_
 refine J.seq (by kernel_rfl) ?_
 refine J.region (by kernel_rfl) ?_
 refine O.e (some 13) (Ev.makeMap (t := 94) .i64 (by kernel_rfl)) (by kernel_rfl) (fun p1_0 => ?_)
 refine O.e none (Ev.insert (t := 94) (kt := 3) (et := 93) (g := p1_0) (q := .i64) (k := 1) (v := .func (.func 46) #[] #[]) (ks := []) (m := .tmp 13) (x := .const (.int .i64 1)) (y := .func 46) (by kernel_rfl) (by kernel_rfl) (by kernel_rfl) (by kernel_rfl) (by kernel_rfl) (by kernel_rfl) (by kernel_rfl)) (by kernel_rfl) (fun _ => ?_)
 refine O.e none (Ev.insert (t := 94) (kt := 3) (et := 93) (g := p1_0) (q := .i64) (k := 2) (v := .func (.func 47) #[] #[]) (ks := ([] ++ [((1 : Int), .func (.func 46) #[] #[])])) (m := .tmp 13) (x := .const (.int .i64 2)) (y := .func 47) (by kernel_rfl) (by kernel_rfl) (by kernel_rfl) (by kernel_rfl) (by kernel_rfl) (by kernel_rfl) (by kernel_rfl)) (by kernel_rfl) (fun _ => ?_)
 refine O.e none (Ev.insert (t := 94) (kt := 3) (et := 93) (g := p1_0) (q := .i64) (k := 3) (v := .func (.func 48) #[] #[]) (ks := (([] ++ [((1 : Int), .func (.func 46) #[] #[])]) ++ [((2 : Int), .func (.func 47) #[] #[])])) (m := .tmp 13) (x := .const (.int .i64 3)) (y := .func 48) (by kernel_rfl) (by kernel_rfl) (by kernel_rfl) (by kernel_rfl) (by kernel_rfl) (by kernel_rfl) (by kernel_rfl)) (by kernel_rfl) (fun _ => ?_)
 refine O.rescope (fun w1_ hS1_ hD1_ => ?_)
 refine O.pure 2 [] [1, 2, 3, 6, 8] [] (fr' := [(1, .slice h1.1 a1.length h1.2), (2, .int .i64 a2), (3, .pointer (some ⟨p0_0, 0, none⟩)), (6, .pointer (some ⟨p0_1, 0, none⟩)), (8, .map (some p1_0))]) (bx' := [⟨p0_1, [.slice none 0 0], 24⟩, ⟨p0_0, [.slice h0.1 a0.f0.length h0.2], 24⟩]) (by kernel_rfl) ?_
 refine O.nil (by kernel_rfl) ?_
 refine J.seq (by kernel_rfl) ?_
 refine J.region (by kernel_rfl) ?_
 refine O.pure 1 [] [1, 2, 3, 6, 8, 9] [] (fr' := [(1, .slice h1.1 a1.length h1.2), (2, .int .i64 a2), (3, .pointer (some ⟨p0_0, 0, none⟩)), (6, .pointer (some ⟨p0_1, 0, none⟩)), (8, .map (some p1_0)), (9, .int .i64 0)]) (bx' := [⟨p0_1, [.slice none 0 0], 24⟩, ⟨p0_0, [.slice h0.1 a0.f0.length h0.2], 24⟩]) (by kernel_rfl) ?_
 refine O.nil (by kernel_rfl) ?_
 refine J.seq (by kernel_rfl) ?_
 refine J.block (id := 0) (by kernel_rfl) ?_
 refine J.loopI (σ := Int × (List S70)) (γ := Hd) (f := fun m_ s_ => ckpt_Do.l1 K a1 a2 m_ s_) (fun s1 g1 => [(1, .slice h1.1 a1.length h1.2), (2, .int .i64 a2), (3, .pointer (some ⟨p0_0, 0, none⟩)), (6, .pointer (some ⟨p0_1, 0, none⟩)), (8, .map (some p1_0)), (9, .int .i64 s1.1)]) (fun s1 g1 => St X w1_ (keys [⟨p0_1, [.slice none 0 0], 24⟩, ⟨p0_0, [.slice h0.1 a0.f0.length h0.2], 24⟩] []) [⟨p0_1, [.slice none 0 0], 24⟩, ⟨p0_0, [.slice g1.1 s1.2.length g1.2], 24⟩] [] [] [Rd kd70 g1.1 g1.2 s1.2, Rd kd70 h0.1 h0.2 a0.f0, Rd kd48 h1.1 h1.2 a1]) K (0, a0.f0) h0 (by kernel_rfl) H (fun _ => rfl) (fun m_ s1 H ih1 g1 => ?_) (fun h_ => ?_)
 ·unfold ckpt_Do.l1 at H
  refine J.seq (by kernel_rfl) ?_
  refine J.seq (by kernel_rfl) ?_
  rcases condE H with ⟨hc18, H⟩ | ⟨hc18, H⟩
  ·refine J.region (by kernel_rfl) ?_
   refine O.pure 3 [] [1, 2, 3, 6, 8, 9, 15, 17] [] (fr' := [(1, .slice h1.1 a1.length h1.2), (2, .int .i64 a2), (3, .pointer (some ⟨p0_0, 0, none⟩)), (6, .pointer (some ⟨p0_1, 0, none⟩)), (8, .map (some p1_0)), (9, .int .i64 s1.1), (15, .int .i64 s1.1), (17, .int .i64 (a1.length : Int))]) (bx' := [⟨p0_1, [.slice none 0 0], 24⟩, ⟨p0_0, [.slice g1.1 s1.2.length g1.2], 24⟩]) (by kernel_rfl) ?_
   refine O.q (v := .bool true) (some 18) (Qu.eqv (u := .bool (decide (s1.1 < (a1.length : Int)))) (v := .bool true) (0, 0) [] (by kernel_rfl) (congrArg Value.bool hc18)) (by kernel_rfl) ?_
   refine O.pure 5 [] [1, 2, 3, 6, 8, 9, 20, 21, 22, 23] [] (fr' := [(1, .slice h1.1 a1.length h1.2), (2, .int .i64 a2), (3, .pointer (some ⟨p0_0, 0, none⟩)), (6, .pointer (some ⟨p0_1, 0, none⟩)), (8, .map (some p1_0)), (9, .int .i64 s1.1), (20, .int .i64 s1.1), (21, .int .i64 a2), (22, .bool (decide (s1.1 < a2))), (23, .bool (decide (s1.1 < a2)))]) (bx' := [⟨p0_1, [.slice none 0 0], 24⟩, ⟨p0_0, [.slice g1.1 s1.2.length g1.2], 24⟩]) (by kernel_rfl) ?_
   refine O.nil (by kernel_rfl) ?_
   rcases condE H with ⟨hc19, H⟩ | ⟨hc19, H⟩
   ·refine J.condT (x := .tmp 23) (t := (decide (s1.1 < a2))) (by kernel_rfl) (by kernel_rfl) hc19 ?_
    refine J.skip (by kernel_rfl) ?_
    refine J.block (id := 1) (by kernel_rfl) ?_
    refine J.seq (by kernel_rfl) ?_
    obtain ⟨x4_3, hx4_3, H⟩ := bindE H
    obtain ⟨hx4_3a, hx4_3⟩ := idxE hx4_3
    rcases condE H with ⟨hc20, H⟩ | ⟨hc20, H⟩
    ·refine J.region (by kernel_rfl) ?_
     refine O.pure 3 [] [1, 2, 3, 6, 8, 9, 20, 21, 22, 24, 25, 26] [] (fr' := [(1, .slice h1.1 a1.length h1.2), (2, .int .i64 a2), (3, .pointer (some ⟨p0_0, 0, none⟩)), (6, .pointer (some ⟨p0_1, 0, none⟩)), (8, .map (some p1_0)), (9, .int .i64 s1.1), (20, .int .i64 s1.1), (21, .int .i64 a2), (22, .bool (decide (s1.1 < a2))), (24, .map (some p1_0)), (25, .slice h1.1 a1.length h1.2), (26, .int .i64 s1.1)]) (bx' := [⟨p0_1, [.slice none 0 0], 24⟩, ⟨p0_0, [.slice g1.1 s1.2.length g1.2], 24⟩]) (by kernel_rfl) ?_
     refine O.open (d := kd48) (h := h1) (i := s1.1) 2 rfl hx4_3 (op48 _) (fun p4_3 hp4_3A => ?_)
     refine O.q (v := .pointer (some ⟨p4_3.1, p4_3.2.1 + s1.1.toNat * 3, none⟩)) (some 27) (Qu.idx (t := 37) (x := .tmp 25) (y := .tmp 26) (c := h1.2) (kk := .i64) (sz := 3) (by kernel_rfl) (by kernel_rfl) (by kernel_rfl) (by kernel_rfl) hx4_3a (idx_lt hx4_3) hp4_3A) (by kernel_rfl) ?_
     refine O.pure 2 [(2, 0)] [1, 2, 3, 6, 8, 9, 20, 21, 22, 24, 29] [p4_3.1, p4_3.2.1 + s1.1.toNat * 3] (fr' := [(1, .slice h1.1 a1.length h1.2), (2, .int .i64 a2), (3, .pointer (some ⟨p0_0, 0, none⟩)), (6, .pointer (some ⟨p0_1, 0, none⟩)), (8, .map (some p1_0)), (9, .int .i64 s1.1), (20, .int .i64 s1.1), (21, .int .i64 a2), (22, .bool (decide (s1.1 < a2))), (24, .map (some p1_0)), (29, .int .i64 x4_3.f0)]) (bx' := [⟨p0_1, [.slice none 0 0], 24⟩, ⟨p0_0, [.slice g1.1 s1.2.length g1.2], 24⟩]) (by kernel_rfl) ?_
     refine O.q (v := .func (.func 46) #[] #[]) (some 30) (Qu.lookup (t := 94) (kt := 3) (et := 93) (g := p1_0) (q := .i64) (k := x4_3.f0) (v := .func (.func 46) #[] #[]) (z := .nilFunc) (ks := ((([] ++ [((1 : Int), .func (.func 46) #[] #[])]) ++ [((2 : Int), .func (.func 47) #[] #[])]) ++ [((3 : Int), .func (.func 48) #[] #[])])) (m := .tmp 24) (x := .tmp 29) hD1_ (by kernel_rfl) (by kernel_rfl) (by kernel_rfl) (by kernel_rfl) (by kernel_rfl) (by kernel_rfl) (by simp only [List.nil_append, List.cons_append, mfind, hc20, cond_true, cond_false]; rfl)) (by kernel_rfl) ?_
     refine O.pure 1 [] [1, 2, 3, 6, 8, 9, 10, 20, 21, 22] [] (fr' := [(1, .slice h1.1 a1.length h1.2), (2, .int .i64 a2), (3, .pointer (some ⟨p0_0, 0, none⟩)), (6, .pointer (some ⟨p0_1, 0, none⟩)), (8, .map (some p1_0)), (9, .int .i64 s1.1), (10, .func (.func 46) #[] #[]), (20, .int .i64 s1.1), (21, .int .i64 a2), (22, .bool (decide (s1.1 < a2)))]) (bx' := [⟨p0_1, [.slice none 0 0], 24⟩, ⟨p0_0, [.slice g1.1 s1.2.length g1.2], 24⟩]) (by kernel_rfl) ?_
     refine O.nil (by kernel_rfl) ?_
     refine J.seq (by kernel_rfl) ?_
     refine J.seq (by kernel_rfl) ?_
     refine J.region (by kernel_rfl) ?_
     refine O.pure 1 [] [1, 2, 3, 6, 8, 9, 10, 20, 21, 22, 31] [] (fr' := [(1, .slice h1.1 a1.length h1.2), (2, .int .i64 a2), (3, .pointer (some ⟨p0_0, 0, none⟩)), (6, .pointer (some ⟨p0_1, 0, none⟩)), (8, .map (some p1_0)), (9, .int .i64 s1.1), (10, .func (.func 46) #[] #[]), (20, .int .i64 s1.1), (21, .int .i64 a2), (22, .bool (decide (s1.1 < a2))), (31, .func (.func 46) #[] #[])]) (bx' := [⟨p0_1, [.slice none 0 0], 24⟩, ⟨p0_0, [.slice g1.1 s1.2.length g1.2], 24⟩]) (by kernel_rfl) ?_
     refine O.q (v := .bool false) (some 32) (Qu.binT (op := .eql) (t := 93) (t' := 93) (x := .tmp 31) (y := .const (.nilFunc)) (u := .func (.func 46) #[] #[]) (v := .nilFunc) (by kernel_rfl) (by kernel_rfl) (by kernel_rfl) (by kernel_rfl)) (by kernel_rfl) ?_
     refine O.nil (by kernel_rfl) ?_
     refine J.cond (o := .tmp 32) false (by kernel_rfl) (by kernel_rfl) ?_
     refine J.skip (by kernel_rfl) ?_
     refine J.seq (by kernel_rfl) ?_
     obtain ⟨x6_3, hx6_3, H⟩ := bindE H
     obtain ⟨hx6_3a, hx6_3⟩ := idxE hx6_3
     obtain ⟨x6_6, hx6_6, H⟩ := bindE H
     refine J.open (d := kd48) (h := h1) (i := s1.1) 3 rfl hx6_3 (op48 _) (fun p6_3 hp6_3A => ?_)
     refine J.cutAt (γ := Hd × Nat) (fun q_ => [(1, .slice h1.1 a1.length h1.2), (2, .int .i64 a2), (3, .pointer (some ⟨p0_0, 0, none⟩)), (6, .pointer (some ⟨p0_1, 0, none⟩)), (8, .map (some p1_0)), (9, .int .i64 s1.1), (11, .pointer (some ⟨q_.2, 0, none⟩)), (12, .int .i64 x6_6.2), (20, .int .i64 s1.1), (21, .int .i64 a2), (22, .bool (decide (s1.1 < a2)))]) (fun q_ => St X w1_ (keys [⟨p0_1, [.slice none 0 0], 24⟩, ⟨p0_0, [.slice h0.1 a0.f0.length h0.2], 24⟩] []) [⟨q_.2, [.slice q_.1.1 x6_6.1.f0.length q_.1.2], 24⟩, ⟨p0_1, [.slice none 0 0], 24⟩, ⟨p0_0, [.slice g1.1 s1.2.length g1.2], 24⟩] [] [] [Rd kd70 q_.1.1 q_.1.2 x6_6.1.f0, Rd (Kd.int .u8) p6_3.2.2.1 p6_3.2.2.2 x6_3.f2, Rd (Kd.int .u8) p4_3.2.2.1 p4_3.2.2.2 x4_3.f2, Rd kd70 g1.1 g1.2 s1.2, Rd kd70 h0.1 h0.2 a0.f0, Rd kd48 h1.1 h1.2 a1]) (fun q_ => ?_) (fun hk_ => ?_)
     ·obtain ⟨p6_6, p6_10⟩ := q_
      refine J.seq (by kernel_rfl) ?_
      refine J.seq (by kernel_rfl) ?_
      refine J.region (by kernel_rfl) ?_
      refine O.pure 2 [] [1, 2, 3, 6, 8, 9, 11, 20, 21, 22, 44] [] (fr' := [(1, .slice h1.1 a1.length h1.2), (2, .int .i64 a2), (3, .pointer (some ⟨p0_0, 0, none⟩)), (6, .pointer (some ⟨p0_1, 0, none⟩)), (8, .map (some p1_0)), (9, .int .i64 s1.1), (11, .pointer (some ⟨p6_10, 0, none⟩)), (20, .int .i64 s1.1), (21, .int .i64 a2), (22, .bool (decide (s1.1 < a2))), (44, .bool (x6_6.2 != 0))]) (bx' := [⟨p6_10, [.slice p6_6.1 x6_6.1.f0.length p6_6.2], 24⟩, ⟨p0_1, [.slice none 0 0], 24⟩, ⟨p0_0, [.slice g1.1 s1.2.length g1.2], 24⟩]) (by kernel_rfl) ?_
      refine O.nil (by kernel_rfl) ?_
      rcases condE H with ⟨hc21, H⟩ | ⟨hc21, H⟩
      ·refine J.condT (x := .tmp 44) (t := (x6_6.2 != 0)) (by kernel_rfl) (by kernel_rfl) hc21 ?_
       refine J.exit (id := 0) (by kernel_rfl) rfl ?_
       refine J.seq (by kernel_rfl) ?_
       refine J.region (by kernel_rfl) ?_
       refine O.pure 4 [(2, 0), (1, 0)] [6, 7] [p0_0, 0, p0_1, 0] (fr' := [(6, .pointer (some ⟨p0_1, 0, none⟩)), (7, .int .i64 s1.1)]) (bx' := [⟨p6_10, [.slice p6_6.1 x6_6.1.f0.length p6_6.2], 24⟩, ⟨p0_1, [.slice g1.1 s1.2.length g1.2], 24⟩, ⟨p0_0, [.slice g1.1 s1.2.length g1.2], 24⟩]) (by kernel_rfl) ?_
       refine O.nil (by kernel_rfl) ?_
       obtain rfl := Option.some.inj H
       refine J.mono (fun w hS => hS1_.unfocus hS) ?_
       exact J.doneS [(1, 0)] [p0_1, 0] [3] [] [] g1 (vs := [.agg #[.slice g1.1 s1.2.length g1.2], .int .i64 s1.1]) (by kernel_rfl) (by kernel_rfl) (by kernel_rfl) (by kernel_rfl) (by kernel_rfl) (by decide)
      ·refine J.condF (x := .tmp 44) (t := (x6_6.2 != 0)) (by kernel_rfl) (by kernel_rfl) hc21 ?_
       refine J.skip (by kernel_rfl) ?_
       refine J.seq (by kernel_rfl) ?_
       refine J.region (by kernel_rfl) ?_
       refine O.pure 2 [(0, 0), (2, 0)] [1, 2, 3, 6, 8, 9, 20, 21, 22] [p6_10, 0, p0_0, 0] (fr' := [(1, .slice h1.1 a1.length h1.2), (2, .int .i64 a2), (3, .pointer (some ⟨p0_0, 0, none⟩)), (6, .pointer (some ⟨p0_1, 0, none⟩)), (8, .map (some p1_0)), (9, .int .i64 s1.1), (20, .int .i64 s1.1), (21, .int .i64 a2), (22, .bool (decide (s1.1 < a2)))]) (bx' := [⟨p6_10, [.slice p6_6.1 x6_6.1.f0.length p6_6.2], 24⟩, ⟨p0_1, [.slice none 0 0], 24⟩, ⟨p0_0, [.slice p6_6.1 x6_6.1.f0.length p6_6.2], 24⟩]) (by kernel_rfl) ?_
       refine O.nil (by kernel_rfl) ?_
       refine J.region (by kernel_rfl) ?_
       refine O.pure 3 [] [1, 2, 3, 6, 8, 9, 20, 21, 22] [] (fr' := [(1, .slice h1.1 a1.length h1.2), (2, .int .i64 a2), (3, .pointer (some ⟨p0_0, 0, none⟩)), (6, .pointer (some ⟨p0_1, 0, none⟩)), (8, .map (some p1_0)), (9, .int .i64 (IntKind.wrap .i64 (s1.1 + 1))), (20, .int .i64 s1.1), (21, .int .i64 a2), (22, .bool (decide (s1.1 < a2)))]) (bx' := [⟨p6_10, [.slice p6_6.1 x6_6.1.f0.length p6_6.2], 24⟩, ⟨p0_1, [.slice none 0 0], 24⟩, ⟨p0_0, [.slice p6_6.1 x6_6.1.f0.length p6_6.2], 24⟩]) (by kernel_rfl) ?_
       refine O.nil (by kernel_rfl) ?_
       refine J.out ?_
       exact J.conv2 [1, 2, 3, 6, 8, 9] [0, 4, 5] [1, 2] [] (by kernel_rfl) (by kernel_rfl) (by kernel_rfl) (by kernel_rfl) (by decide) (ih1 ((IntKind.wrap .i64 (s1.1 + 1)), x6_6.1.f0) p6_6 H)
     ·refine J.drawS (by kernel_rfl) [(0, some 34, .func (.func 46) #[] #[]), (1, some 35, .slice h1.1 a1.length h1.2), (2, some 36, .int .i64 s1.1), (4, some 38, .agg #[.int .i64 x6_3.f0, .string x6_3.f1, .slice p6_3.2.2.1 x6_3.f2.length p6_3.2.2.2]), (5, some 39, .agg #[.slice g1.1 s1.2.length g1.2]), (3, some 37, .pointer (some ⟨p6_3.1, p6_3.2.1 + s1.1.toNat * 3, none⟩))] ([0, 1, 2, 4, 5] ++ [3]) (by kernel_rfl) ?_
      refine D.mid (cs := [6, 10]) [0, 1, 2, 4, 5] [3] [(2, 0), (1, 0)] [p6_3.1, p6_3.2.1 + s1.1.toNat * 3, p0_0, 0] (by kernel_rfl) (by kernel_rfl) (⟨QuAt.mk (v := .pointer (some ⟨p6_3.1, p6_3.2.1 + s1.1.toNat * 3, none⟩)) (some 37) (by kernel_rfl) (by kernel_rfl) (Qu.idx (t := 37) (x := .tmp 35) (y := .tmp 36) (c := h1.2) (kk := .i64) (sz := 3) (by kernel_rfl) (by kernel_rfl) (by kernel_rfl) (by kernel_rfl) hx6_3a (idx_lt hx6_3) hp6_3A), trivial⟩) (by kernel_rfl) ⟨?_, ?_, trivial⟩
      ·refine EvStep.mk (some 40) (new := fun p6_6 => [(7, some 33, .tuple #[.agg #[.slice p6_6.1 x6_6.1.f0.length p6_6.2], .int .i64 x6_6.2]), (8, some 41, .agg #[.slice p6_6.1 x6_6.1.f0.length p6_6.2]), (9, some 42, .int .i64 x6_6.2)]) ([1, 2, 7, 8, 9] ++ [3]) (by kernel_rfl) (Ev.callF (g := 46) (caps := []) (vs := [.agg #[.int .i64 x6_3.f0, .string x6_3.f1, .slice p6_3.2.2.1 x6_3.f2.length p6_3.2.2.2], .agg #[.slice g1.1 s1.2.length g1.2]]) (xs := [.tmp 38, .tmp 39]) [0, 2] (by kernel_rfl) (by kernel_rfl) (fun w hS => ckpt_Change__drop_f46.con K x6_3 (⟨s1.2⟩ : S24) p6_3.2.2 g1  _ _ w hS hx6_6)) (fun p6_6 => by kernel_rfl) (fun p6_6 => ?_)
       refine D.mid (cs := [10]) [1, 2, 7, 8, 9] [3] [] [] (by kernel_rfl) (by kernel_rfl) (⟨QuAt.mk (v := .pointer (some ⟨p6_3.1, p6_3.2.1 + s1.1.toNat * 3, none⟩)) (some 37) (by kernel_rfl) (by kernel_rfl) (Qu.idx (t := 37) (x := .tmp 35) (y := .tmp 36) (c := h1.2) (kk := .i64) (sz := 3) (by kernel_rfl) (by kernel_rfl) (by kernel_rfl) (by kernel_rfl) hx6_3a (idx_lt hx6_3) hp6_3A), trivial⟩) (by kernel_rfl) ⟨?_, trivial⟩
       refine EvStep.mk (some 11) (new := fun p6_10 => []) ([1, 2, 7, 8, 9] ++ [3]) (by kernel_rfl) (Ev.alloc (t := 24) (z := .agg #[.slice none 0 0]) (by kernel_rfl) (by kernel_rfl)) (fun p6_10 => by kernel_rfl) (fun p6_10 => ?_)
       refine D.mid (cs := [11]) [1, 2, 7, 8, 9] [3] [] [] (by kernel_rfl) (by kernel_rfl) (⟨QuAt.mk (v := .pointer (some ⟨p6_3.1, p6_3.2.1 + s1.1.toNat * 3, none⟩)) (some 37) (by kernel_rfl) (by kernel_rfl) (Qu.idx (t := 37) (x := .tmp 35) (y := .tmp 36) (c := h1.2) (kk := .i64) (sz := 3) (by kernel_rfl) (by kernel_rfl) (by kernel_rfl) (by kernel_rfl) hx6_3a (idx_lt hx6_3) hp6_3A), trivial⟩) (by kernel_rfl) ⟨?_, trivial⟩
       refine EvStep.mk none (new := fun _ => [(12, some 12, .int .i64 x6_6.2)]) ([9, 12] ++ []) (by kernel_rfl) (Ev.store (kk := 0) (cs := [.slice p6_6.1 x6_6.1.f0.length p6_6.2]) (0, 0) [p6_10, 0] (by kernel_rfl)) (fun _ => by kernel_rfl) (fun _ => ?_)
       refine D.fin (fr' := [(1, .slice h1.1 a1.length h1.2), (2, .int .i64 a2), (3, .pointer (some ⟨p0_0, 0, none⟩)), (6, .pointer (some ⟨p0_1, 0, none⟩)), (8, .map (some p1_0)), (9, .int .i64 s1.1), (11, .pointer (some ⟨p6_10, 0, none⟩)), (12, .int .i64 x6_6.2), (20, .int .i64 s1.1), (21, .int .i64 a2), (22, .bool (decide (s1.1 < a2)))]) [9, 12] [] [] [] [1, 2, 3, 6, 8, 9, 11, 12, 20, 21, 22] (by kernel_rfl) (by kernel_rfl) trivial (by kernel_rfl) ?_
       exact J.conv2 [1, 2, 3, 6, 8, 9, 11, 12, 20, 21, 22] [0, 1, 2, 3, 4, 5] [0, 1, 2] [] (by kernel_rfl) (by kernel_rfl) (by kernel_rfl) (by kernel_rfl) (by decide) (hk_ (p6_6, p6_10))
      ·refine EvStep.mk (some 11) (new := fun p6_10 => []) ([0, 1, 2, 4, 5] ++ [3]) (by kernel_rfl) (Ev.alloc (t := 24) (z := .agg #[.slice none 0 0]) (by kernel_rfl) (by kernel_rfl)) (fun p6_10 => by kernel_rfl) (fun p6_10 => ?_)
       refine D.mid (cs := [6]) [0, 1, 2, 4, 5] [3] [(3, 0), (2, 0)] [p6_3.1, p6_3.2.1 + s1.1.toNat * 3, p0_0, 0] (by kernel_rfl) (by kernel_rfl) (⟨QuAt.mk (v := .pointer (some ⟨p6_3.1, p6_3.2.1 + s1.1.toNat * 3, none⟩)) (some 37) (by kernel_rfl) (by kernel_rfl) (Qu.idx (t := 37) (x := .tmp 35) (y := .tmp 36) (c := h1.2) (kk := .i64) (sz := 3) (by kernel_rfl) (by kernel_rfl) (by kernel_rfl) (by kernel_rfl) hx6_3a (idx_lt hx6_3) hp6_3A), trivial⟩) (by kernel_rfl) ⟨?_, trivial⟩
       refine EvStep.mk (some 40) (new := fun p6_6 => [(7, some 33, .tuple #[.agg #[.slice p6_6.1 x6_6.1.f0.length p6_6.2], .int .i64 x6_6.2]), (8, some 41, .agg #[.slice p6_6.1 x6_6.1.f0.length p6_6.2]), (9, some 42, .int .i64 x6_6.2)]) ([1, 2, 7, 8, 9] ++ [3]) (by kernel_rfl) (Ev.callF (g := 46) (caps := []) (vs := [.agg #[.int .i64 x6_3.f0, .string x6_3.f1, .slice p6_3.2.2.1 x6_3.f2.length p6_3.2.2.2], .agg #[.slice g1.1 s1.2.length g1.2]]) (xs := [.tmp 38, .tmp 39]) [0, 2] (by kernel_rfl) (by kernel_rfl) (fun w hS => ckpt_Change__drop_f46.con K x6_3 (⟨s1.2⟩ : S24) p6_3.2.2 g1  _ _ w hS hx6_6)) (fun p6_6 => by kernel_rfl) (fun p6_6 => ?_)
       refine D.mid (cs := [11]) [1, 2, 7, 8, 9] [3] [] [] (by kernel_rfl) (by kernel_rfl) (⟨QuAt.mk (v := .pointer (some ⟨p6_3.1, p6_3.2.1 + s1.1.toNat * 3, none⟩)) (some 37) (by kernel_rfl) (by kernel_rfl) (Qu.idx (t := 37) (x := .tmp 35) (y := .tmp 36) (c := h1.2) (kk := .i64) (sz := 3) (by kernel_rfl) (by kernel_rfl) (by kernel_rfl) (by kernel_rfl) hx6_3a (idx_lt hx6_3) hp6_3A), trivial⟩) (by kernel_rfl) ⟨?_, trivial⟩
       refine EvStep.mk none (new := fun _ => [(12, some 12, .int .i64 x6_6.2)]) ([9, 12] ++ []) (by kernel_rfl) (Ev.store (kk := 0) (cs := [.slice p6_6.1 x6_6.1.f0.length p6_6.2]) (0, 0) [p6_10, 0] (by kernel_rfl)) (fun _ => by kernel_rfl) (fun _ => ?_)
       refine D.fin (fr' := [(1, .slice h1.1 a1.length h1.2), (2, .int .i64 a2), (3, .pointer (some ⟨p0_0, 0, none⟩)), (6, .pointer (some ⟨p0_1, 0, none⟩)), (8, .map (some p1_0)), (9, .int .i64 s1.1), (11, .pointer (some ⟨p6_10, 0, none⟩)), (12, .int .i64 x6_6.2), (20, .int .i64 s1.1), (21, .int .i64 a2), (22, .bool (decide (s1.1 < a2)))]) [9, 12] [] [] [] [1, 2, 3, 6, 8, 9, 11, 12, 20, 21, 22] (by kernel_rfl) (by kernel_rfl) trivial (by kernel_rfl) ?_
       exact J.conv2 [1, 2, 3, 6, 8, 9, 11, 12, 20, 21, 22] [0, 1, 2, 3, 4, 5] [0, 1, 2] [] (by kernel_rfl) (by kernel_rfl) (by kernel_rfl) (by kernel_rfl) (by decide) (hk_ (p6_6, p6_10))
    ·rcases condE H with ⟨hc22, H⟩ | ⟨hc22, H⟩
     ·refine J.region (by kernel_rfl) ?_
      refine O.pure 3 [] [1, 2, 3, 6, 8, 9, 20, 21, 22, 24, 25, 26] [] (fr' := [(1, .slice h1.1 a1.length h1.2), (2, .int .i64 a2), (3, .pointer (some ⟨p0_0, 0, none⟩)), (6, .pointer (some ⟨p0_1, 0, none⟩)), (8, .map (some p1_0)), (9, .int .i64 s1.1), (20, .int .i64 s1.1), (21, .int .i64 a2), (22, .bool (decide (s1.1 < a2))), (24, .map (some p1_0)), (25, .slice h1.1 a1.length h1.2), (26, .int .i64 s1.1)]) (bx' := [⟨p0_1, [.slice none 0 0], 24⟩, ⟨p0_0, [.slice g1.1 s1.2.length g1.2], 24⟩]) (by kernel_rfl) ?_
      refine O.open (d := kd48) (h := h1) (i := s1.1) 2 rfl hx4_3 (op48 _) (fun p4_3 hp4_3A => ?_)
      refine O.q (v := .pointer (some ⟨p4_3.1, p4_3.2.1 + s1.1.toNat * 3, none⟩)) (some 27) (Qu.idx (t := 37) (x := .tmp 25) (y := .tmp 26) (c := h1.2) (kk := .i64) (sz := 3) (by kernel_rfl) (by kernel_rfl) (by kernel_rfl) (by kernel_rfl) hx4_3a (idx_lt hx4_3) hp4_3A) (by kernel_rfl) ?_
      refine O.pure 2 [(2, 0)] [1, 2, 3, 6, 8, 9, 20, 21, 22, 24, 29] [p4_3.1, p4_3.2.1 + s1.1.toNat * 3] (fr' := [(1, .slice h1.1 a1.length h1.2), (2, .int .i64 a2), (3, .pointer (some ⟨p0_0, 0, none⟩)), (6, .pointer (some ⟨p0_1, 0, none⟩)), (8, .map (some p1_0)), (9, .int .i64 s1.1), (20, .int .i64 s1.1), (21, .int .i64 a2), (22, .bool (decide (s1.1 < a2))), (24, .map (some p1_0)), (29, .int .i64 x4_3.f0)]) (bx' := [⟨p0_1, [.slice none 0 0], 24⟩, ⟨p0_0, [.slice g1.1 s1.2.length g1.2], 24⟩]) (by kernel_rfl) ?_
      refine O.q (v := .func (.func 47) #[] #[]) (some 30) (Qu.lookup (t := 94) (kt := 3) (et := 93) (g := p1_0) (q := .i64) (k := x4_3.f0) (v := .func (.func 47) #[] #[]) (z := .nilFunc) (ks := ((([] ++ [((1 : Int), .func (.func 46) #[] #[])]) ++ [((2 : Int), .func (.func 47) #[] #[])]) ++ [((3 : Int), .func (.func 48) #[] #[])])) (m := .tmp 24) (x := .tmp 29) hD1_ (by kernel_rfl) (by kernel_rfl) (by kernel_rfl) (by kernel_rfl) (by kernel_rfl) (by kernel_rfl) (by simp only [List.nil_append, List.cons_append, mfind, hc20, hc22, cond_true, cond_false]; rfl)) (by kernel_rfl) ?_
      refine O.pure 1 [] [1, 2, 3, 6, 8, 9, 10, 20, 21, 22] [] (fr' := [(1, .slice h1.1 a1.length h1.2), (2, .int .i64 a2), (3, .pointer (some ⟨p0_0, 0, none⟩)), (6, .pointer (some ⟨p0_1, 0, none⟩)), (8, .map (some p1_0)), (9, .int .i64 s1.1), (10, .func (.func 47) #[] #[]), (20, .int .i64 s1.1), (21, .int .i64 a2), (22, .bool (decide (s1.1 < a2)))]) (bx' := [⟨p0_1, [.slice none 0 0], 24⟩, ⟨p0_0, [.slice g1.1 s1.2.length g1.2], 24⟩]) (by kernel_rfl) ?_
      refine O.nil (by kernel_rfl) ?_
      refine J.seq (by kernel_rfl) ?_
      refine J.seq (by kernel_rfl) ?_
      refine J.region (by kernel_rfl) ?_
      refine O.pure 1 [] [1, 2, 3, 6, 8, 9, 10, 20, 21, 22, 31] [] (fr' := [(1, .slice h1.1 a1.length h1.2), (2, .int .i64 a2), (3, .pointer (some ⟨p0_0, 0, none⟩)), (6, .pointer (some ⟨p0_1, 0, none⟩)), (8, .map (some p1_0)), (9, .int .i64 s1.1), (10, .func (.func 47) #[] #[]), (20, .int .i64 s1.1), (21, .int .i64 a2), (22, .bool (decide (s1.1 < a2))), (31, .func (.func 47) #[] #[])]) (bx' := [⟨p0_1, [.slice none 0 0], 24⟩, ⟨p0_0, [.slice g1.1 s1.2.length g1.2], 24⟩]) (by kernel_rfl) ?_
      refine O.q (v := .bool false) (some 32) (Qu.binT (op := .eql) (t := 93) (t' := 93) (x := .tmp 31) (y := .const (.nilFunc)) (u := .func (.func 47) #[] #[]) (v := .nilFunc) (by kernel_rfl) (by kernel_rfl) (by kernel_rfl) (by kernel_rfl)) (by kernel_rfl) ?_
      refine O.nil (by kernel_rfl) ?_
      refine J.cond (o := .tmp 32) false (by kernel_rfl) (by kernel_rfl) ?_
      refine J.skip (by kernel_rfl) ?_
      refine J.seq (by kernel_rfl) ?_
      obtain ⟨x6_3, hx6_3, H⟩ := bindE H
      obtain ⟨hx6_3a, hx6_3⟩ := idxE hx6_3
      obtain ⟨x6_6, hx6_6, H⟩ := bindE H
      refine J.open (d := kd48) (h := h1) (i := s1.1) 3 rfl hx6_3 (op48 _) (fun p6_3 hp6_3A => ?_)
      refine J.cutAt (γ := Hd × Nat) (fun q_ => [(1, .slice h1.1 a1.length h1.2), (2, .int .i64 a2), (3, .pointer (some ⟨p0_0, 0, none⟩)), (6, .pointer (some ⟨p0_1, 0, none⟩)), (8, .map (some p1_0)), (9, .int .i64 s1.1), (11, .pointer (some ⟨q_.2, 0, none⟩)), (12, .int .i64 x6_6.2), (20, .int .i64 s1.1), (21, .int .i64 a2), (22, .bool (decide (s1.1 < a2)))]) (fun q_ => St X w1_ (keys [⟨p0_1, [.slice none 0 0], 24⟩, ⟨p0_0, [.slice h0.1 a0.f0.length h0.2], 24⟩] []) [⟨q_.2, [.slice q_.1.1 x6_6.1.f0.length q_.1.2], 24⟩, ⟨p0_1, [.slice none 0 0], 24⟩, ⟨p0_0, [.slice g1.1 s1.2.length g1.2], 24⟩] [mkRow kd70 70 (.slice q_.1.1 x6_6.1.f0.length q_.1.2) x6_6.1.f0] [] [Rd (Kd.int .u8) p6_3.2.2.1 p6_3.2.2.2 x6_3.f2, Rd (Kd.int .u8) p4_3.2.2.1 p4_3.2.2.2 x4_3.f2, Rd kd70 g1.1 g1.2 s1.2, Rd kd70 h0.1 h0.2 a0.f0, Rd kd48 h1.1 h1.2 a1]) (fun q_ => ?_) (fun hk_ => ?_)
      ·obtain ⟨p6_6, p6_10⟩ := q_
       refine J.seq (by kernel_rfl) ?_
       refine J.seq (by kernel_rfl) ?_
       refine J.region (by kernel_rfl) ?_
       refine O.pure 2 [] [1, 2, 3, 6, 8, 9, 11, 20, 21, 22, 44] [] (fr' := [(1, .slice h1.1 a1.length h1.2), (2, .int .i64 a2), (3, .pointer (some ⟨p0_0, 0, none⟩)), (6, .pointer (some ⟨p0_1, 0, none⟩)), (8, .map (some p1_0)), (9, .int .i64 s1.1), (11, .pointer (some ⟨p6_10, 0, none⟩)), (20, .int .i64 s1.1), (21, .int .i64 a2), (22, .bool (decide (s1.1 < a2))), (44, .bool (x6_6.2 != 0))]) (bx' := [⟨p6_10, [.slice p6_6.1 x6_6.1.f0.length p6_6.2], 24⟩, ⟨p0_1, [.slice none 0 0], 24⟩, ⟨p0_0, [.slice g1.1 s1.2.length g1.2], 24⟩]) (by kernel_rfl) ?_
       refine O.nil (by kernel_rfl) ?_
       rcases condE H with ⟨hc23, H⟩ | ⟨hc23, H⟩
       ·refine J.condT (x := .tmp 44) (t := (x6_6.2 != 0)) (by kernel_rfl) (by kernel_rfl) hc23 ?_
        refine J.exit (id := 0) (by kernel_rfl) rfl ?_
        refine J.seq (by kernel_rfl) ?_
        refine J.region (by kernel_rfl) ?_
        refine O.pure 4 [(2, 0), (1, 0)] [6, 7] [p0_0, 0, p0_1, 0] (fr' := [(6, .pointer (some ⟨p0_1, 0, none⟩)), (7, .int .i64 s1.1)]) (bx' := [⟨p6_10, [.slice p6_6.1 x6_6.1.f0.length p6_6.2], 24⟩, ⟨p0_1, [.slice g1.1 s1.2.length g1.2], 24⟩, ⟨p0_0, [.slice g1.1 s1.2.length g1.2], 24⟩]) (by kernel_rfl) ?_
        refine O.nil (by kernel_rfl) ?_
        obtain rfl := Option.some.inj H
        refine J.mono (fun w hS => hS1_.unfocus hS) ?_
        exact J.doneS [(1, 0)] [p0_1, 0] [2] [] [] g1 (vs := [.agg #[.slice g1.1 s1.2.length g1.2], .int .i64 s1.1]) (by kernel_rfl) (by kernel_rfl) (by kernel_rfl) (by kernel_rfl) (by kernel_rfl) (by decide)
       ·refine J.condF (x := .tmp 44) (t := (x6_6.2 != 0)) (by kernel_rfl) (by kernel_rfl) hc23 ?_
        refine J.skip (by kernel_rfl) ?_
        refine J.seq (by kernel_rfl) ?_
        refine J.region (by kernel_rfl) ?_
        refine O.pure 2 [(0, 0), (2, 0)] [1, 2, 3, 6, 8, 9, 20, 21, 22] [p6_10, 0, p0_0, 0] (fr' := [(1, .slice h1.1 a1.length h1.2), (2, .int .i64 a2), (3, .pointer (some ⟨p0_0, 0, none⟩)), (6, .pointer (some ⟨p0_1, 0, none⟩)), (8, .map (some p1_0)), (9, .int .i64 s1.1), (20, .int .i64 s1.1), (21, .int .i64 a2), (22, .bool (decide (s1.1 < a2)))]) (bx' := [⟨p6_10, [.slice p6_6.1 x6_6.1.f0.length p6_6.2], 24⟩, ⟨p0_1, [.slice none 0 0], 24⟩, ⟨p0_0, [.slice p6_6.1 x6_6.1.f0.length p6_6.2], 24⟩]) (by kernel_rfl) ?_
        refine O.nil (by kernel_rfl) ?_
        refine J.region (by kernel_rfl) ?_
        refine O.pure 3 [] [1, 2, 3, 6, 8, 9, 20, 21, 22] [] (fr' := [(1, .slice h1.1 a1.length h1.2), (2, .int .i64 a2), (3, .pointer (some ⟨p0_0, 0, none⟩)), (6, .pointer (some ⟨p0_1, 0, none⟩)), (8, .map (some p1_0)), (9, .int .i64 (IntKind.wrap .i64 (s1.1 + 1))), (20, .int .i64 s1.1), (21, .int .i64 a2), (22, .bool (decide (s1.1 < a2)))]) (bx' := [⟨p6_10, [.slice p6_6.1 x6_6.1.f0.length p6_6.2], 24⟩, ⟨p0_1, [.slice none 0 0], 24⟩, ⟨p0_0, [.slice p6_6.1 x6_6.1.f0.length p6_6.2], 24⟩]) (by kernel_rfl) ?_
        refine O.nil (by kernel_rfl) ?_
        refine J.out ?_
        refine J.mono (fun w hS => hS.freezeH (h := p6_6) (xs := x6_6.1.f0)) ?_
        exact J.conv2 [1, 2, 3, 6, 8, 9] [0, 4, 5] [1, 2] [] (by kernel_rfl) (by kernel_rfl) (by kernel_rfl) (by kernel_rfl) (by decide) (ih1 ((IntKind.wrap .i64 (s1.1 + 1)), x6_6.1.f0) p6_6 H)
      ·refine J.drawS (by kernel_rfl) [(0, some 34, .func (.func 47) #[] #[]), (1, some 35, .slice h1.1 a1.length h1.2), (2, some 36, .int .i64 s1.1), (4, some 38, .agg #[.int .i64 x6_3.f0, .string x6_3.f1, .slice p6_3.2.2.1 x6_3.f2.length p6_3.2.2.2]), (5, some 39, .agg #[.slice g1.1 s1.2.length g1.2]), (3, some 37, .pointer (some ⟨p6_3.1, p6_3.2.1 + s1.1.toNat * 3, none⟩))] ([0, 1, 2, 4, 5] ++ [3]) (by kernel_rfl) ?_
       refine D.mid (cs := [6, 10]) [0, 1, 2, 4, 5] [3] [(2, 0), (1, 0)] [p6_3.1, p6_3.2.1 + s1.1.toNat * 3, p0_0, 0] (by kernel_rfl) (by kernel_rfl) (⟨QuAt.mk (v := .pointer (some ⟨p6_3.1, p6_3.2.1 + s1.1.toNat * 3, none⟩)) (some 37) (by kernel_rfl) (by kernel_rfl) (Qu.idx (t := 37) (x := .tmp 35) (y := .tmp 36) (c := h1.2) (kk := .i64) (sz := 3) (by kernel_rfl) (by kernel_rfl) (by kernel_rfl) (by kernel_rfl) hx6_3a (idx_lt hx6_3) hp6_3A), trivial⟩) (by kernel_rfl) ⟨?_, ?_, trivial⟩
       ·refine EvStep.mk (some 40) (new := fun p6_6 => [(7, some 33, .tuple #[.agg #[.slice p6_6.1 x6_6.1.f0.length p6_6.2], .int .i64 x6_6.2]), (8, some 41, .agg #[.slice p6_6.1 x6_6.1.f0.length p6_6.2]), (9, some 42, .int .i64 x6_6.2)]) ([1, 2, 7, 8, 9] ++ [3]) (by kernel_rfl) (Ev.callF (g := 47) (caps := []) (vs := [.agg #[.int .i64 x6_3.f0, .string x6_3.f1, .slice p6_3.2.2.1 x6_3.f2.length p6_3.2.2.2], .agg #[.slice g1.1 s1.2.length g1.2]]) (xs := [.tmp 38, .tmp 39]) [0, 2] (by kernel_rfl) (by kernel_rfl) (fun w hS => ckpt_Change__put_f47.con K x6_3 (⟨s1.2⟩ : S24) p6_3.2.2 g1  _ _ w hS hx6_6)) (fun p6_6 => by kernel_rfl) (fun p6_6 => ?_)
        refine D.mid (cs := [10]) [1, 2, 7, 8, 9] [3] [] [] (by kernel_rfl) (by kernel_rfl) (⟨QuAt.mk (v := .pointer (some ⟨p6_3.1, p6_3.2.1 + s1.1.toNat * 3, none⟩)) (some 37) (by kernel_rfl) (by kernel_rfl) (Qu.idx (t := 37) (x := .tmp 35) (y := .tmp 36) (c := h1.2) (kk := .i64) (sz := 3) (by kernel_rfl) (by kernel_rfl) (by kernel_rfl) (by kernel_rfl) hx6_3a (idx_lt hx6_3) hp6_3A), trivial⟩) (by kernel_rfl) ⟨?_, trivial⟩
        refine EvStep.mk (some 11) (new := fun p6_10 => []) ([1, 2, 7, 8, 9] ++ [3]) (by kernel_rfl) (Ev.alloc (t := 24) (z := .agg #[.slice none 0 0]) (by kernel_rfl) (by kernel_rfl)) (fun p6_10 => by kernel_rfl) (fun p6_10 => ?_)
        refine D.mid (cs := [11]) [1, 2, 7, 8, 9] [3] [] [] (by kernel_rfl) (by kernel_rfl) (⟨QuAt.mk (v := .pointer (some ⟨p6_3.1, p6_3.2.1 + s1.1.toNat * 3, none⟩)) (some 37) (by kernel_rfl) (by kernel_rfl) (Qu.idx (t := 37) (x := .tmp 35) (y := .tmp 36) (c := h1.2) (kk := .i64) (sz := 3) (by kernel_rfl) (by kernel_rfl) (by kernel_rfl) (by kernel_rfl) hx6_3a (idx_lt hx6_3) hp6_3A), trivial⟩) (by kernel_rfl) ⟨?_, trivial⟩
        refine EvStep.mk none (new := fun _ => [(12, some 12, .int .i64 x6_6.2)]) ([9, 12] ++ []) (by kernel_rfl) (Ev.store (kk := 0) (cs := [.slice p6_6.1 x6_6.1.f0.length p6_6.2]) (0, 0) [p6_10, 0] (by kernel_rfl)) (fun _ => by kernel_rfl) (fun _ => ?_)
        refine D.fin (fr' := [(1, .slice h1.1 a1.length h1.2), (2, .int .i64 a2), (3, .pointer (some ⟨p0_0, 0, none⟩)), (6, .pointer (some ⟨p0_1, 0, none⟩)), (8, .map (some p1_0)), (9, .int .i64 s1.1), (11, .pointer (some ⟨p6_10, 0, none⟩)), (12, .int .i64 x6_6.2), (20, .int .i64 s1.1), (21, .int .i64 a2), (22, .bool (decide (s1.1 < a2)))]) [9, 12] [] [] [] [1, 2, 3, 6, 8, 9, 11, 12, 20, 21, 22] (by kernel_rfl) (by kernel_rfl) trivial (by kernel_rfl) ?_
        exact J.conv2 [1, 2, 3, 6, 8, 9, 11, 12, 20, 21, 22] [0, 1, 2, 3, 4] [0, 1, 2] [0] (by kernel_rfl) (by kernel_rfl) (by kernel_rfl) (by kernel_rfl) (by decide) (hk_ (p6_6, p6_10))
       ·refine EvStep.mk (some 11) (new := fun p6_10 => []) ([0, 1, 2, 4, 5] ++ [3]) (by kernel_rfl) (Ev.alloc (t := 24) (z := .agg #[.slice none 0 0]) (by kernel_rfl) (by kernel_rfl)) (fun p6_10 => by kernel_rfl) (fun p6_10 => ?_)
        refine D.mid (cs := [6]) [0, 1, 2, 4, 5] [3] [(3, 0), (2, 0)] [p6_3.1, p6_3.2.1 + s1.1.toNat * 3, p0_0, 0] (by kernel_rfl) (by kernel_rfl) (⟨QuAt.mk (v := .pointer (some ⟨p6_3.1, p6_3.2.1 + s1.1.toNat * 3, none⟩)) (some 37) (by kernel_rfl) (by kernel_rfl) (Qu.idx (t := 37) (x := .tmp 35) (y := .tmp 36) (c := h1.2) (kk := .i64) (sz := 3) (by kernel_rfl) (by kernel_rfl) (by kernel_rfl) (by kernel_rfl) hx6_3a (idx_lt hx6_3) hp6_3A), trivial⟩) (by kernel_rfl) ⟨?_, trivial⟩
        refine EvStep.mk (some 40) (new := fun p6_6 => [(7, some 33, .tuple #[.agg #[.slice p6_6.1 x6_6.1.f0.length p6_6.2], .int .i64 x6_6.2]), (8, some 41, .agg #[.slice p6_6.1 x6_6.1.f0.length p6_6.2]), (9, some 42, .int .i64 x6_6.2)]) ([1, 2, 7, 8, 9] ++ [3]) (by kernel_rfl) (Ev.callF (g := 47) (caps := []) (vs := [.agg #[.int .i64 x6_3.f0, .string x6_3.f1, .slice p6_3.2.2.1 x6_3.f2.length p6_3.2.2.2], .agg #[.slice g1.1 s1.2.length g1.2]]) (xs := [.tmp 38, .tmp 39]) [0, 2] (by kernel_rfl) (by kernel_rfl) (fun w hS => ckpt_Change__put_f47.con K x6_3 (⟨s1.2⟩ : S24) p6_3.2.2 g1  _ _ w hS hx6_6)) (fun p6_6 => by kernel_rfl) (fun p6_6 => ?_)
        refine D.mid (cs := [11]) [1, 2, 7, 8, 9] [3] [] [] (by kernel_rfl) (by kernel_rfl) (⟨QuAt.mk (v := .pointer (some ⟨p6_3.1, p6_3.2.1 + s1.1.toNat * 3, none⟩)) (some 37) (by kernel_rfl) (by kernel_rfl) (Qu.idx (t := 37) (x := .tmp 35) (y := .tmp 36) (c := h1.2) (kk := .i64) (sz := 3) (by kernel_rfl) (by kernel_rfl) (by kernel_rfl) (by kernel_rfl) hx6_3a (idx_lt hx6_3) hp6_3A), trivial⟩) (by kernel_rfl) ⟨?_, trivial⟩
        refine EvStep.mk none (new := fun _ => [(12, some 12, .int .i64 x6_6.2)]) ([9, 12] ++ []) (by kernel_rfl) (Ev.store (kk := 0) (cs := [.slice p6_6.1 x6_6.1.f0.length p6_6.2]) (0, 0) [p6_10, 0] (by kernel_rfl)) (fun _ => by kernel_rfl) (fun _ => ?_)
        refine D.fin (fr' := [(1, .slice h1.1 a1.length h1.2), (2, .int .i64 a2), (3, .pointer (some ⟨p0_0, 0, none⟩)), (6, .pointer (some ⟨p0_1, 0, none⟩)), (8, .map (some p1_0)), (9, .int .i64 s1.1), (11, .pointer (some ⟨p6_10, 0, none⟩)), (12, .int .i64 x6_6.2), (20, .int .i64 s1.1), (21, .int .i64 a2), (22, .bool (decide (s1.1 < a2)))]) [9, 12] [] [] [] [1, 2, 3, 6, 8, 9, 11, 12, 20, 21, 22] (by kernel_rfl) (by kernel_rfl) trivial (by kernel_rfl) ?_
        exact J.conv2 [1, 2, 3, 6, 8, 9, 11, 12, 20, 21, 22] [0, 1, 2, 3, 4] [0, 1, 2] [0] (by kernel_rfl) (by kernel_rfl) (by kernel_rfl) (by kernel_rfl) (by decide) (hk_ (p6_6, p6_10))
     ·rcases condE H with ⟨hc24, H⟩ | ⟨hc24, H⟩
      ·refine J.region (by kernel_rfl) ?_
       refine O.pure 3 [] [1, 2, 3, 6, 8, 9, 20, 21, 22, 24, 25, 26] [] (fr' := [(1, .slice h1.1 a1.length h1.2), (2, .int .i64 a2), (3, .pointer (some ⟨p0_0, 0, none⟩)), (6, .pointer (some ⟨p0_1, 0, none⟩)), (8, .map (some p1_0)), (9, .int .i64 s1.1), (20, .int .i64 s1.1), (21, .int .i64 a2), (22, .bool (decide (s1.1 < a2))), (24, .map (some p1_0)), (25, .slice h1.1 a1.length h1.2), (26, .int .i64 s1.1)]) (bx' := [⟨p0_1, [.slice none 0 0], 24⟩, ⟨p0_0, [.slice g1.1 s1.2.length g1.2], 24⟩]) (by kernel_rfl) ?_
       refine O.open (d := kd48) (h := h1) (i := s1.1) 2 rfl hx4_3 (op48 _) (fun p4_3 hp4_3A => ?_)
       refine O.q (v := .pointer (some ⟨p4_3.1, p4_3.2.1 + s1.1.toNat * 3, none⟩)) (some 27) (Qu.idx (t := 37) (x := .tmp 25) (y := .tmp 26) (c := h1.2) (kk := .i64) (sz := 3) (by kernel_rfl) (by kernel_rfl) (by kernel_rfl) (by kernel_rfl) hx4_3a (idx_lt hx4_3) hp4_3A) (by kernel_rfl) ?_
       refine O.pure 2 [(2, 0)] [1, 2, 3, 6, 8, 9, 20, 21, 22, 24, 29] [p4_3.1, p4_3.2.1 + s1.1.toNat * 3] (fr' := [(1, .slice h1.1 a1.length h1.2), (2, .int .i64 a2), (3, .pointer (some ⟨p0_0, 0, none⟩)), (6, .pointer (some ⟨p0_1, 0, none⟩)), (8, .map (some p1_0)), (9, .int .i64 s1.1), (20, .int .i64 s1.1), (21, .int .i64 a2), (22, .bool (decide (s1.1 < a2))), (24, .map (some p1_0)), (29, .int .i64 x4_3.f0)]) (bx' := [⟨p0_1, [.slice none 0 0], 24⟩, ⟨p0_0, [.slice g1.1 s1.2.length g1.2], 24⟩]) (by kernel_rfl) ?_
       refine O.q (v := .func (.func 48) #[] #[]) (some 30) (Qu.lookup (t := 94) (kt := 3) (et := 93) (g := p1_0) (q := .i64) (k := x4_3.f0) (v := .func (.func 48) #[] #[]) (z := .nilFunc) (ks := ((([] ++ [((1 : Int), .func (.func 46) #[] #[])]) ++ [((2 : Int), .func (.func 47) #[] #[])]) ++ [((3 : Int), .func (.func 48) #[] #[])])) (m := .tmp 24) (x := .tmp 29) hD1_ (by kernel_rfl) (by kernel_rfl) (by kernel_rfl) (by kernel_rfl) (by kernel_rfl) (by kernel_rfl) (by simp only [List.nil_append, List.cons_append, mfind, hc20, hc22, hc24, cond_true, cond_false]; rfl)) (by kernel_rfl) ?_
       refine O.pure 1 [] [1, 2, 3, 6, 8, 9, 10, 20, 21, 22] [] (fr' := [(1, .slice h1.1 a1.length h1.2), (2, .int .i64 a2), (3, .pointer (some ⟨p0_0, 0, none⟩)), (6, .pointer (some ⟨p0_1, 0, none⟩)), (8, .map (some p1_0)), (9, .int .i64 s1.1), (10, .func (.func 48) #[] #[]), (20, .int .i64 s1.1), (21, .int .i64 a2), (22, .bool (decide (s1.1 < a2)))]) (bx' := [⟨p0_1, [.slice none 0 0], 24⟩, ⟨p0_0, [.slice g1.1 s1.2.length g1.2], 24⟩]) (by kernel_rfl) ?_
       refine O.nil (by kernel_rfl) ?_
       refine J.seq (by kernel_rfl) ?_
       refine J.seq (by kernel_rfl) ?_
       refine J.region (by kernel_rfl) ?_
       refine O.pure 1 [] [1, 2, 3, 6, 8, 9, 10, 20, 21, 22, 31] [] (fr' := [(1, .slice h1.1 a1.length h1.2), (2, .int .i64 a2), (3, .pointer (some ⟨p0_0, 0, none⟩)), (6, .pointer (some ⟨p0_1, 0, none⟩)), (8, .map (some p1_0)), (9, .int .i64 s1.1), (10, .func (.func 48) #[] #[]), (20, .int .i64 s1.1), (21, .int .i64 a2), (22, .bool (decide (s1.1 < a2))), (31, .func (.func 48) #[] #[])]) (bx' := [⟨p0_1, [.slice none 0 0], 24⟩, ⟨p0_0, [.slice g1.1 s1.2.length g1.2], 24⟩]) (by kernel_rfl) ?_
       refine O.q (v := .bool false) (some 32) (Qu.binT (op := .eql) (t := 93) (t' := 93) (x := .tmp 31) (y := .const (.nilFunc)) (u := .func (.func 48) #[] #[]) (v := .nilFunc) (by kernel_rfl) (by kernel_rfl) (by kernel_rfl) (by kernel_rfl)) (by kernel_rfl) ?_
       refine O.nil (by kernel_rfl) ?_
       refine J.cond (o := .tmp 32) false (by kernel_rfl) (by kernel_rfl) ?_
       refine J.skip (by kernel_rfl) ?_
       refine J.seq (by kernel_rfl) ?_
       obtain ⟨x6_3, hx6_3, H⟩ := bindE H
       obtain ⟨hx6_3a, hx6_3⟩ := idxE hx6_3
       obtain ⟨x6_6, hx6_6, H⟩ := bindE H
       refine J.open (d := kd48) (h := h1) (i := s1.1) 3 rfl hx6_3 (op48 _) (fun p6_3 hp6_3A => ?_)
       refine J.cutAt (γ := Hd × Nat) (fun q_ => [(1, .slice h1.1 a1.length h1.2), (2, .int .i64 a2), (3, .pointer (some ⟨p0_0, 0, none⟩)), (6, .pointer (some ⟨p0_1, 0, none⟩)), (8, .map (some p1_0)), (9, .int .i64 s1.1), (11, .pointer (some ⟨q_.2, 0, none⟩)), (12, .int .i64 x6_6.2), (20, .int .i64 s1.1), (21, .int .i64 a2), (22, .bool (decide (s1.1 < a2)))]) (fun q_ => St X w1_ (keys [⟨p0_1, [.slice none 0 0], 24⟩, ⟨p0_0, [.slice h0.1 a0.f0.length h0.2], 24⟩] []) [⟨q_.2, [.slice q_.1.1 x6_6.1.f0.length q_.1.2], 24⟩, ⟨p0_1, [.slice none 0 0], 24⟩, ⟨p0_0, [.slice g1.1 s1.2.length g1.2], 24⟩] [mkRow kd70 70 (.slice q_.1.1 x6_6.1.f0.length q_.1.2) x6_6.1.f0] [] [Rd (Kd.int .u8) p6_3.2.2.1 p6_3.2.2.2 x6_3.f2, Rd (Kd.int .u8) p4_3.2.2.1 p4_3.2.2.2 x4_3.f2, Rd kd70 g1.1 g1.2 s1.2, Rd kd70 h0.1 h0.2 a0.f0, Rd kd48 h1.1 h1.2 a1]) (fun q_ => ?_) (fun hk_ => ?_)
       ·obtain ⟨p6_6, p6_10⟩ := q_
        refine J.seq (by kernel_rfl) ?_
        refine J.seq (by kernel_rfl) ?_
        refine J.region (by kernel_rfl) ?_
        refine O.pure 2 [] [1, 2, 3, 6, 8, 9, 11, 20, 21, 22, 44] [] (fr' := [(1, .slice h1.1 a1.length h1.2), (2, .int .i64 a2), (3, .pointer (some ⟨p0_0, 0, none⟩)), (6, .pointer (some ⟨p0_1, 0, none⟩)), (8, .map (some p1_0)), (9, .int .i64 s1.1), (11, .pointer (some ⟨p6_10, 0, none⟩)), (20, .int .i64 s1.1), (21, .int .i64 a2), (22, .bool (decide (s1.1 < a2))), (44, .bool (x6_6.2 != 0))]) (bx' := [⟨p6_10, [.slice p6_6.1 x6_6.1.f0.length p6_6.2], 24⟩, ⟨p0_1, [.slice none 0 0], 24⟩, ⟨p0_0, [.slice g1.1 s1.2.length g1.2], 24⟩]) (by kernel_rfl) ?_
        refine O.nil (by kernel_rfl) ?_
        rcases condE H with ⟨hc25, H⟩ | ⟨hc25, H⟩
        ·refine J.condT (x := .tmp 44) (t := (x6_6.2 != 0)) (by kernel_rfl) (by kernel_rfl) hc25 ?_
         refine J.exit (id := 0) (by kernel_rfl) rfl ?_
         refine J.seq (by kernel_rfl) ?_
         refine J.region (by kernel_rfl) ?_
         refine O.pure 4 [(2, 0), (1, 0)] [6, 7] [p0_0, 0, p0_1, 0] (fr' := [(6, .pointer (some ⟨p0_1, 0, none⟩)), (7, .int .i64 s1.1)]) (bx' := [⟨p6_10, [.slice p6_6.1 x6_6.1.f0.length p6_6.2], 24⟩, ⟨p0_1, [.slice g1.1 s1.2.length g1.2], 24⟩, ⟨p0_0, [.slice g1.1 s1.2.length g1.2], 24⟩]) (by kernel_rfl) ?_
         refine O.nil (by kernel_rfl) ?_
         obtain rfl := Option.some.inj H
         refine J.mono (fun w hS => hS1_.unfocus hS) ?_
         exact J.doneS [(1, 0)] [p0_1, 0] [2] [] [] g1 (vs := [.agg #[.slice g1.1 s1.2.length g1.2], .int .i64 s1.1]) (by kernel_rfl) (by kernel_rfl) (by kernel_rfl) (by kernel_rfl) (by kernel_rfl) (by decide)
        ·refine J.condF (x := .tmp 44) (t := (x6_6.2 != 0)) (by kernel_rfl) (by kernel_rfl) hc25 ?_
         refine J.skip (by kernel_rfl) ?_
         refine J.seq (by kernel_rfl) ?_
         refine J.region (by kernel_rfl) ?_
         refine O.pure 2 [(0, 0), (2, 0)] [1, 2, 3, 6, 8, 9, 20, 21, 22] [p6_10, 0, p0_0, 0] (fr' := [(1, .slice h1.1 a1.length h1.2), (2, .int .i64 a2), (3, .pointer (some ⟨p0_0, 0, none⟩)), (6, .pointer (some ⟨p0_1, 0, none⟩)), (8, .map (some p1_0)), (9, .int .i64 s1.1), (20, .int .i64 s1.1), (21, .int .i64 a2), (22, .bool (decide (s1.1 < a2)))]) (bx' := [⟨p6_10, [.slice p6_6.1 x6_6.1.f0.length p6_6.2], 24⟩, ⟨p0_1, [.slice none 0 0], 24⟩, ⟨p0_0, [.slice p6_6.1 x6_6.1.f0.length p6_6.2], 24⟩]) (by kernel_rfl) ?_
         refine O.nil (by kernel_rfl) ?_
         refine J.region (by kernel_rfl) ?_
         refine O.pure 3 [] [1, 2, 3, 6, 8, 9, 20, 21, 22] [] (fr' := [(1, .slice h1.1 a1.length h1.2), (2, .int .i64 a2), (3, .pointer (some ⟨p0_0, 0, none⟩)), (6, .pointer (some ⟨p0_1, 0, none⟩)), (8, .map (some p1_0)), (9, .int .i64 (IntKind.wrap .i64 (s1.1 + 1))), (20, .int .i64 s1.1), (21, .int .i64 a2), (22, .bool (decide (s1.1 < a2)))]) (bx' := [⟨p6_10, [.slice p6_6.1 x6_6.1.f0.length p6_6.2], 24⟩, ⟨p0_1, [.slice none 0 0], 24⟩, ⟨p0_0, [.slice p6_6.1 x6_6.1.f0.length p6_6.2], 24⟩]) (by kernel_rfl) ?_
         refine O.nil (by kernel_rfl) ?_
         refine J.out ?_
         refine J.mono (fun w hS => hS.freezeH (h := p6_6) (xs := x6_6.1.f0)) ?_
         exact J.conv2 [1, 2, 3, 6, 8, 9] [0, 4, 5] [1, 2] [] (by kernel_rfl) (by kernel_rfl) (by kernel_rfl) (by kernel_rfl) (by decide) (ih1 ((IntKind.wrap .i64 (s1.1 + 1)), x6_6.1.f0) p6_6 H)
       ·refine J.drawS (by kernel_rfl) [(0, some 34, .func (.func 48) #[] #[]), (1, some 35, .slice h1.1 a1.length h1.2), (2, some 36, .int .i64 s1.1), (4, some 38, .agg #[.int .i64 x6_3.f0, .string x6_3.f1, .slice p6_3.2.2.1 x6_3.f2.length p6_3.2.2.2]), (5, some 39, .agg #[.slice g1.1 s1.2.length g1.2]), (3, some 37, .pointer (some ⟨p6_3.1, p6_3.2.1 + s1.1.toNat * 3, none⟩))] ([0, 1, 2, 4, 5] ++ [3]) (by kernel_rfl) ?_
        refine D.mid (cs := [6, 10]) [0, 1, 2, 4, 5] [3] [(2, 0), (1, 0)] [p6_3.1, p6_3.2.1 + s1.1.toNat * 3, p0_0, 0] (by kernel_rfl) (by kernel_rfl) (⟨QuAt.mk (v := .pointer (some ⟨p6_3.1, p6_3.2.1 + s1.1.toNat * 3, none⟩)) (some 37) (by kernel_rfl) (by kernel_rfl) (Qu.idx (t := 37) (x := .tmp 35) (y := .tmp 36) (c := h1.2) (kk := .i64) (sz := 3) (by kernel_rfl) (by kernel_rfl) (by kernel_rfl) (by kernel_rfl) hx6_3a (idx_lt hx6_3) hp6_3A), trivial⟩) (by kernel_rfl) ⟨?_, ?_, trivial⟩
        ·refine EvStep.mk (some 40) (new := fun p6_6 => [(7, some 33, .tuple #[.agg #[.slice p6_6.1 x6_6.1.f0.length p6_6.2], .int .i64 x6_6.2]), (8, some 41, .agg #[.slice p6_6.1 x6_6.1.f0.length p6_6.2]), (9, some 42, .int .i64 x6_6.2)]) ([1, 2, 7, 8, 9] ++ [3]) (by kernel_rfl) (Ev.callF (g := 48) (caps := []) (vs := [.agg #[.int .i64 x6_3.f0, .string x6_3.f1, .slice p6_3.2.2.1 x6_3.f2.length p6_3.2.2.2], .agg #[.slice g1.1 s1.2.length g1.2]]) (xs := [.tmp 38, .tmp 39]) [0, 2] (by kernel_rfl) (by kernel_rfl) (fun w hS => ckpt_Change__sync_f48.con K x6_3 (⟨s1.2⟩ : S24) p6_3.2.2 g1  _ _ w hS hx6_6)) (fun p6_6 => by kernel_rfl) (fun p6_6 => ?_)
         refine D.mid (cs := [10]) [1, 2, 7, 8, 9] [3] [] [] (by kernel_rfl) (by kernel_rfl) (⟨QuAt.mk (v := .pointer (some ⟨p6_3.1, p6_3.2.1 + s1.1.toNat * 3, none⟩)) (some 37) (by kernel_rfl) (by kernel_rfl) (Qu.idx (t := 37) (x := .tmp 35) (y := .tmp 36) (c := h1.2) (kk := .i64) (sz := 3) (by kernel_rfl) (by kernel_rfl) (by kernel_rfl) (by kernel_rfl) hx6_3a (idx_lt hx6_3) hp6_3A), trivial⟩) (by kernel_rfl) ⟨?_, trivial⟩
         refine EvStep.mk (some 11) (new := fun p6_10 => []) ([1, 2, 7, 8, 9] ++ [3]) (by kernel_rfl) (Ev.alloc (t := 24) (z := .agg #[.slice none 0 0]) (by kernel_rfl) (by kernel_rfl)) (fun p6_10 => by kernel_rfl) (fun p6_10 => ?_)
         refine D.mid (cs := [11]) [1, 2, 7, 8, 9] [3] [] [] (by kernel_rfl) (by kernel_rfl) (⟨QuAt.mk (v := .pointer (some ⟨p6_3.1, p6_3.2.1 + s1.1.toNat * 3, none⟩)) (some 37) (by kernel_rfl) (by kernel_rfl) (Qu.idx (t := 37) (x := .tmp 35) (y := .tmp 36) (c := h1.2) (kk := .i64) (sz := 3) (by kernel_rfl) (by kernel_rfl) (by kernel_rfl) (by kernel_rfl) hx6_3a (idx_lt hx6_3) hp6_3A), trivial⟩) (by kernel_rfl) ⟨?_, trivial⟩
         refine EvStep.mk none (new := fun _ => [(12, some 12, .int .i64 x6_6.2)]) ([9, 12] ++ []) (by kernel_rfl) (Ev.store (kk := 0) (cs := [.slice p6_6.1 x6_6.1.f0.length p6_6.2]) (0, 0) [p6_10, 0] (by kernel_rfl)) (fun _ => by kernel_rfl) (fun _ => ?_)
         refine D.fin (fr' := [(1, .slice h1.1 a1.length h1.2), (2, .int .i64 a2), (3, .pointer (some ⟨p0_0, 0, none⟩)), (6, .pointer (some ⟨p0_1, 0, none⟩)), (8, .map (some p1_0)), (9, .int .i64 s1.1), (11, .pointer (some ⟨p6_10, 0, none⟩)), (12, .int .i64 x6_6.2), (20, .int .i64 s1.1), (21, .int .i64 a2), (22, .bool (decide (s1.1 < a2)))]) [9, 12] [] [] [] [1, 2, 3, 6, 8, 9, 11, 12, 20, 21, 22] (by kernel_rfl) (by kernel_rfl) trivial (by kernel_rfl) ?_
         exact J.conv2 [1, 2, 3, 6, 8, 9, 11, 12, 20, 21, 22] [0, 1, 2, 3, 4] [0, 1, 2] [0] (by kernel_rfl) (by kernel_rfl) (by kernel_rfl) (by kernel_rfl) (by decide) (hk_ (p6_6, p6_10))
        ·refine EvStep.mk (some 11) (new := fun p6_10 => []) ([0, 1, 2, 4, 5] ++ [3]) (by kernel_rfl) (Ev.alloc (t := 24) (z := .agg #[.slice none 0 0]) (by kernel_rfl) (by kernel_rfl)) (fun p6_10 => by kernel_rfl) (fun p6_10 => ?_)
         refine D.mid (cs := [6]) [0, 1, 2, 4, 5] [3] [(3, 0), (2, 0)] [p6_3.1, p6_3.2.1 + s1.1.toNat * 3, p0_0, 0] (by kernel_rfl) (by kernel_rfl) (⟨QuAt.mk (v := .pointer (some ⟨p6_3.1, p6_3.2.1 + s1.1.toNat * 3, none⟩)) (some 37) (by kernel_rfl) (by kernel_rfl) (Qu.idx (t := 37) (x := .tmp 35) (y := .tmp 36) (c := h1.2) (kk := .i64) (sz := 3) (by kernel_rfl) (by kernel_rfl) (by kernel_rfl) (by kernel_rfl) hx6_3a (idx_lt hx6_3) hp6_3A), trivial⟩) (by kernel_rfl) ⟨?_, trivial⟩
         refine EvStep.mk (some 40) (new := fun p6_6 => [(7, some 33, .tuple #[.agg #[.slice p6_6.1 x6_6.1.f0.length p6_6.2], .int .i64 x6_6.2]), (8, some 41, .agg #[.slice p6_6.1 x6_6.1.f0.length p6_6.2]), (9, some 42, .int .i64 x6_6.2)]) ([1, 2, 7, 8, 9] ++ [3]) (by kernel_rfl) (Ev.callF (g := 48) (caps := []) (vs := [.agg #[.int .i64 x6_3.f0, .string x6_3.f1, .slice p6_3.2.2.1 x6_3.f2.length p6_3.2.2.2], .agg #[.slice g1.1 s1.2.length g1.2]]) (xs := [.tmp 38, .tmp 39]) [0, 2] (by kernel_rfl) (by kernel_rfl) (fun w hS => ckpt_Change__sync_f48.con K x6_3 (⟨s1.2⟩ : S24) p6_3.2.2 g1  _ _ w hS hx6_6)) (fun p6_6 => by kernel_rfl) (fun p6_6 => ?_)
         refine D.mid (cs := [11]) [1, 2, 7, 8, 9] [3] [] [] (by kernel_rfl) (by kernel_rfl) (⟨QuAt.mk (v := .pointer (some ⟨p6_3.1, p6_3.2.1 + s1.1.toNat * 3, none⟩)) (some 37) (by kernel_rfl) (by kernel_rfl) (Qu.idx (t := 37) (x := .tmp 35) (y := .tmp 36) (c := h1.2) (kk := .i64) (sz := 3) (by kernel_rfl) (by kernel_rfl) (by kernel_rfl) (by kernel_rfl) hx6_3a (idx_lt hx6_3) hp6_3A), trivial⟩) (by kernel_rfl) ⟨?_, trivial⟩
         refine EvStep.mk none (new := fun _ => [(12, some 12, .int .i64 x6_6.2)]) ([9, 12] ++ []) (by kernel_rfl) (Ev.store (kk := 0) (cs := [.slice p6_6.1 x6_6.1.f0.length p6_6.2]) (0, 0) [p6_10, 0] (by kernel_rfl)) (fun _ => by kernel_rfl) (fun _ => ?_)
         refine D.fin (fr' := [(1, .slice h1.1 a1.length h1.2), (2, .int .i64 a2), (3, .pointer (some ⟨p0_0, 0, none⟩)), (6, .pointer (some ⟨p0_1, 0, none⟩)), (8, .map (some p1_0)), (9, .int .i64 s1.1), (11, .pointer (some ⟨p6_10, 0, none⟩)), (12, .int .i64 x6_6.2), (20, .int .i64 s1.1), (21, .int .i64 a2), (22, .bool (decide (s1.1 < a2)))]) [9, 12] [] [] [] [1, 2, 3, 6, 8, 9, 11, 12, 20, 21, 22] (by kernel_rfl) (by kernel_rfl) trivial (by kernel_rfl) ?_
         exact J.conv2 [1, 2, 3, 6, 8, 9, 11, 12, 20, 21, 22] [0, 1, 2, 3, 4] [0, 1, 2] [0] (by kernel_rfl) (by kernel_rfl) (by kernel_rfl) (by kernel_rfl) (by decide) (hk_ (p6_6, p6_10))
      ·refine J.region (by kernel_rfl) ?_
       refine O.pure 3 [] [1, 2, 3, 6, 8, 9, 20, 21, 22, 24, 25, 26] [] (fr' := [(1, .slice h1.1 a1.length h1.2), (2, .int .i64 a2), (3, .pointer (some ⟨p0_0, 0, none⟩)), (6, .pointer (some ⟨p0_1, 0, none⟩)), (8, .map (some p1_0)), (9, .int .i64 s1.1), (20, .int .i64 s1.1), (21, .int .i64 a2), (22, .bool (decide (s1.1 < a2))), (24, .map (some p1_0)), (25, .slice h1.1 a1.length h1.2), (26, .int .i64 s1.1)]) (bx' := [⟨p0_1, [.slice none 0 0], 24⟩, ⟨p0_0, [.slice g1.1 s1.2.length g1.2], 24⟩]) (by kernel_rfl) ?_
       refine O.open (d := kd48) (h := h1) (i := s1.1) 2 rfl hx4_3 (op48 _) (fun p4_3 hp4_3A => ?_)
       refine O.q (v := .pointer (some ⟨p4_3.1, p4_3.2.1 + s1.1.toNat * 3, none⟩)) (some 27) (Qu.idx (t := 37) (x := .tmp 25) (y := .tmp 26) (c := h1.2) (kk := .i64) (sz := 3) (by kernel_rfl) (by kernel_rfl) (by kernel_rfl) (by kernel_rfl) hx4_3a (idx_lt hx4_3) hp4_3A) (by kernel_rfl) ?_
       refine O.pure 2 [(2, 0)] [1, 2, 3, 6, 8, 9, 20, 21, 22, 24, 29] [p4_3.1, p4_3.2.1 + s1.1.toNat * 3] (fr' := [(1, .slice h1.1 a1.length h1.2), (2, .int .i64 a2), (3, .pointer (some ⟨p0_0, 0, none⟩)), (6, .pointer (some ⟨p0_1, 0, none⟩)), (8, .map (some p1_0)), (9, .int .i64 s1.1), (20, .int .i64 s1.1), (21, .int .i64 a2), (22, .bool (decide (s1.1 < a2))), (24, .map (some p1_0)), (29, .int .i64 x4_3.f0)]) (bx' := [⟨p0_1, [.slice none 0 0], 24⟩, ⟨p0_0, [.slice g1.1 s1.2.length g1.2], 24⟩]) (by kernel_rfl) ?_
       refine O.q (v := .nilFunc) (some 30) (Qu.lookup (t := 94) (kt := 3) (et := 93) (g := p1_0) (q := .i64) (k := x4_3.f0) (v := .nilFunc) (z := .nilFunc) (ks := ((([] ++ [((1 : Int), .func (.func 46) #[] #[])]) ++ [((2 : Int), .func (.func 47) #[] #[])]) ++ [((3 : Int), .func (.func 48) #[] #[])])) (m := .tmp 24) (x := .tmp 29) hD1_ (by kernel_rfl) (by kernel_rfl) (by kernel_rfl) (by kernel_rfl) (by kernel_rfl) (by kernel_rfl) (by simp only [List.nil_append, List.cons_append, mfind, hc20, hc22, hc24, cond_true, cond_false]; rfl)) (by kernel_rfl) ?_
       refine O.pure 1 [] [1, 2, 3, 6, 8, 9, 10, 20, 21, 22] [] (fr' := [(1, .slice h1.1 a1.length h1.2), (2, .int .i64 a2), (3, .pointer (some ⟨p0_0, 0, none⟩)), (6, .pointer (some ⟨p0_1, 0, none⟩)), (8, .map (some p1_0)), (9, .int .i64 s1.1), (10, .nilFunc), (20, .int .i64 s1.1), (21, .int .i64 a2), (22, .bool (decide (s1.1 < a2)))]) (bx' := [⟨p0_1, [.slice none 0 0], 24⟩, ⟨p0_0, [.slice g1.1 s1.2.length g1.2], 24⟩]) (by kernel_rfl) ?_
       refine O.nil (by kernel_rfl) ?_
       refine J.seq (by kernel_rfl) ?_
       refine J.seq (by kernel_rfl) ?_
       refine J.region (by kernel_rfl) ?_
       refine O.pure 1 [] [1, 2, 3, 6, 8, 9, 10, 20, 21, 22, 31] [] (fr' := [(1, .slice h1.1 a1.length h1.2), (2, .int .i64 a2), (3, .pointer (some ⟨p0_0, 0, none⟩)), (6, .pointer (some ⟨p0_1, 0, none⟩)), (8, .map (some p1_0)), (9, .int .i64 s1.1), (10, .nilFunc), (20, .int .i64 s1.1), (21, .int .i64 a2), (22, .bool (decide (s1.1 < a2))), (31, .nilFunc)]) (bx' := [⟨p0_1, [.slice none 0 0], 24⟩, ⟨p0_0, [.slice g1.1 s1.2.length g1.2], 24⟩]) (by kernel_rfl) ?_
       refine O.q (v := .bool true) (some 32) (Qu.binT (op := .eql) (t := 93) (t' := 93) (x := .tmp 31) (y := .const (.nilFunc)) (u := .nilFunc) (v := .nilFunc) (by kernel_rfl) (by kernel_rfl) (by kernel_rfl) (by kernel_rfl)) (by kernel_rfl) ?_
       refine O.nil (by kernel_rfl) ?_
       refine J.cond (o := .tmp 32) true (by kernel_rfl) (by kernel_rfl) ?_
       refine J.exit (id := 0) (by kernel_rfl) rfl ?_
       refine J.seq (by kernel_rfl) ?_
       refine J.region (by kernel_rfl) ?_
       refine O.pure 4 [(1, 0), (0, 0)] [6, 7] [p0_0, 0, p0_1, 0] (fr' := [(6, .pointer (some ⟨p0_1, 0, none⟩)), (7, .int .i64 s1.1)]) (bx' := [⟨p0_1, [.slice g1.1 s1.2.length g1.2], 24⟩, ⟨p0_0, [.slice g1.1 s1.2.length g1.2], 24⟩]) (by kernel_rfl) ?_
       refine O.nil (by kernel_rfl) ?_
       obtain rfl := Option.some.inj H
       refine J.mono (fun w hS => hS1_.unfocus hS) ?_
       exact J.doneS [(0, 0)] [p0_1, 0] [1] [] [] g1 (vs := [.agg #[.slice g1.1 s1.2.length g1.2], .int .i64 s1.1]) (by kernel_rfl) (by kernel_rfl) (by kernel_rfl) (by kernel_rfl) (by kernel_rfl) (by decide)
   ·refine J.condF (x := .tmp 23) (t := (decide (s1.1 < a2))) (by kernel_rfl) (by kernel_rfl) hc19 ?_
    refine J.exit (id := 0) (by kernel_rfl) rfl ?_
    refine J.seq (by kernel_rfl) ?_
    refine J.region (by kernel_rfl) ?_
    refine O.pure 4 [(1, 0), (0, 0)] [6, 7] [p0_0, 0, p0_1, 0] (fr' := [(6, .pointer (some ⟨p0_1, 0, none⟩)), (7, .int .i64 s1.1)]) (bx' := [⟨p0_1, [.slice g1.1 s1.2.length g1.2], 24⟩, ⟨p0_0, [.slice g1.1 s1.2.length g1.2], 24⟩]) (by kernel_rfl) ?_
    refine O.nil (by kernel_rfl) ?_
    obtain rfl := Option.some.inj H
    refine J.mono (fun w hS => hS1_.unfocus hS) ?_
    exact J.doneS [(0, 0)] [p0_1, 0] [0] [] [] g1 (vs := [.agg #[.slice g1.1 s1.2.length g1.2], .int .i64 s1.1]) (by kernel_rfl) (by kernel_rfl) (by kernel_rfl) (by kernel_rfl) (by kernel_rfl) (by decide)
  ·refine J.region (by kernel_rfl) ?_
   refine O.pure 3 [] [1, 2, 3, 6, 8, 9, 15, 17] [] (fr' := [(1, .slice h1.1 a1.length h1.2), (2, .int .i64 a2), (3, .pointer (some ⟨p0_0, 0, none⟩)), (6, .pointer (some ⟨p0_1, 0, none⟩)), (8, .map (some p1_0)), (9, .int .i64 s1.1), (15, .int .i64 s1.1), (17, .int .i64 (a1.length : Int))]) (bx' := [⟨p0_1, [.slice none 0 0], 24⟩, ⟨p0_0, [.slice g1.1 s1.2.length g1.2], 24⟩]) (by kernel_rfl) ?_
   refine O.q (v := .bool false) (some 18) (Qu.eqv (u := .bool (decide (s1.1 < (a1.length : Int)))) (v := .bool false) (0, 0) [] (by kernel_rfl) (congrArg Value.bool hc18)) (by kernel_rfl) ?_
   refine O.pure 5 [] [1, 2, 3, 6, 8, 9, 20, 21, 22, 23] [] (fr' := [(1, .slice h1.1 a1.length h1.2), (2, .int .i64 a2), (3, .pointer (some ⟨p0_0, 0, none⟩)), (6, .pointer (some ⟨p0_1, 0, none⟩)), (8, .map (some p1_0)), (9, .int .i64 s1.1), (20, undef), (21, undef), (22, undef), (23, .bool false)]) (bx' := [⟨p0_1, [.slice none 0 0], 24⟩, ⟨p0_0, [.slice g1.1 s1.2.length g1.2], 24⟩]) (by kernel_rfl) ?_
   refine O.nil (by kernel_rfl) ?_
   refine J.cond (o := .tmp 23) false (by kernel_rfl) (by kernel_rfl) ?_
   refine J.exit (id := 0) (by kernel_rfl) rfl ?_
   refine J.seq (by kernel_rfl) ?_
   refine J.region (by kernel_rfl) ?_
   refine O.pure 4 [(1, 0), (0, 0)] [6, 7] [p0_0, 0, p0_1, 0] (fr' := [(6, .pointer (some ⟨p0_1, 0, none⟩)), (7, .int .i64 s1.1)]) (bx' := [⟨p0_1, [.slice g1.1 s1.2.length g1.2], 24⟩, ⟨p0_0, [.slice g1.1 s1.2.length g1.2], 24⟩]) (by kernel_rfl) ?_
   refine O.nil (by kernel_rfl) ?_
   obtain rfl := Option.some.inj H
   refine J.mono (fun w hS => hS1_.unfocus hS) ?_
   exact J.doneS [(0, 0)] [p0_1, 0] [0] [] [] g1 (vs := [.agg #[.slice g1.1 s1.2.length g1.2], .int .i64 s1.1]) (by kernel_rfl) (by kernel_rfl) (by kernel_rfl) (by kernel_rfl) (by kernel_rfl) (by decide)
 ·exact J.conv2 [1, 2, 3, 6, 8, 9] [0, 0, 1] [0, 1] [] (by kernel_rfl) (by kernel_rfl) (by kernel_rfl) (by kernel_rfl) (by decide) h_
/-! ### haywain/ckpt.Last: function 11 -/
def ckpt_Last.f (K : Nat) (a0 : S24) : Option (Int × (List Int) × Int) := (ckpt_read.f K a0).bind fun x1_1 => cond (!x1_1.2.2.2) (some ((0, ([] : List Int), 2))) (cond (x1_1.1 == 0) (some ((0, ([] : List Int), 4))) ((ckpt_File.f K x1_1.1).bind fun x6_2 => (disk_Get.f K a0 x6_2).bind fun x6_3 => cond (x6_3.2 != 0) (some ((0, ([] : List Int), 2))) ((code_TakeFrame.f K x6_3.1).bind fun x9_1 => cond (x9_1.2.2 != 0) (some ((0, ([] : List Int), 2))) (cond (decide ((x9_1.2.1.length : Int) > 0)) (some ((0, ([] : List Int), 2))) (some ((x1_1.1, x9_1.1, 0)))))))
set_option maxRecDepth 100000 in
set_option maxHeartbeats 1000000 in
theorem ckpt_Last.con (K : Nat) (a0 : S24) (h0 : Hd) (r : (Int × (List Int) × Int)) (X : Nat → Nat → Prop) (w : World) (hS : St X w [] [] [] [] [Rd kd70 h0.1 h0.2 a0.f0] w) (H : ckpt_Last.f K a0 = some r) :
    Cn Try.prog 11 [.agg #[.slice h0.1 a0.f0.length h0.2]] X w [] (fun i : Hd => .tuple #[.int .i64 r.1, .slice i.1 r.2.1.length i.2, .int .i64 r.2.2]) (fun i => []) (fun i => []) (fun i => [Rd (Kd.int .u8) i.1 i.2 r.2.1]) := by
 refine Cn.of Try.func11 (by kernel_rfl) hS ?_
 unfold ckpt_Last.f at H
 refine J.seq (by kernel_rfl) ?_
 refine J.region (by kernel_rfl) ?_
 refine O.e (some 1) (Ev.box (t := 24) (x := .tmp 0) (v := .agg #[.slice h0.1 a0.f0.length h0.2]) (by kernel_rfl) (by kernel_rfl)) (by kernel_rfl) (fun p0_0 => ?_)
 refine O.pure 3 [] [1] [] (fr' := [(1, .pointer (some ⟨p0_0, 0, none⟩))]) (bx' := [⟨p0_0, [.slice h0.1 a0.f0.length h0.2], 24⟩]) (by kernel_rfl) ?_
 refine O.nil (by kernel_rfl) ?_
 refine J.seq (by kernel_rfl) ?_
 obtain ⟨x1_1, hx1_1, H⟩ := bindE H
 refine J.region (by kernel_rfl) ?_
 refine O.pure 1 [(0, 0)] [1, 14] [p0_0, 0] (fr' := [(1, .pointer (some ⟨p0_0, 0, none⟩)), (14, .agg #[.slice h0.1 a0.f0.length h0.2])]) (bx' := [⟨p0_0, [.slice h0.1 a0.f0.length h0.2], 24⟩]) (by kernel_rfl) ?_
 refine O.e (some 15) (Ev.call0 (xs := [.tmp 14]) [0] (by kernel_rfl) (by kernel_rfl) (fun w hS => ckpt_read.con K a0 h0  _ _ w hS hx1_1)) (by kernel_rfl) (fun _ => ?_)
 refine O.pure 9 [] [1, 5, 8] [] (fr' := [(1, .pointer (some ⟨p0_0, 0, none⟩)), (5, .int .i64 x1_1.1), (8, .bool x1_1.2.2.2)]) (bx' := [⟨p0_0, [.slice h0.1 a0.f0.length h0.2], 24⟩]) (by kernel_rfl) ?_
 refine O.nil (by kernel_rfl) ?_
 refine J.seq (by kernel_rfl) ?_
 refine J.seq (by kernel_rfl) ?_
 refine J.region (by kernel_rfl) ?_
 refine O.pure 2 [] [1, 5, 21] [] (fr' := [(1, .pointer (some ⟨p0_0, 0, none⟩)), (5, .int .i64 x1_1.1), (21, .bool (!x1_1.2.2.2))]) (bx' := [⟨p0_0, [.slice h0.1 a0.f0.length h0.2], 24⟩]) (by kernel_rfl) ?_
 refine O.nil (by kernel_rfl) ?_
 rcases condE H with ⟨hc1, H⟩ | ⟨hc1, H⟩
 ·refine J.condT (x := .tmp 21) (t := (!x1_1.2.2.2)) (by kernel_rfl) (by kernel_rfl) hc1 ?_
  refine J.seq (by kernel_rfl) ?_
  refine J.region (by kernel_rfl) ?_
  refine O.pure 3 [] [2, 3, 4] [] (fr' := [(2, .int .i64 0), (3, .slice none 0 0), (4, .int .i64 2)]) (bx' := [⟨p0_0, [.slice h0.1 a0.f0.length h0.2], 24⟩]) (by kernel_rfl) ?_
  refine O.nil (by kernel_rfl) ?_
  obtain rfl := Option.some.inj H
  refine J.nilF (Kd.int .u8) ?_
  exact J.doneS [] [] [0] [] [] (none, 0) (vs := [.int .i64 0, .slice none 0 0, .int .i64 2]) (by kernel_rfl) (by kernel_rfl) (by kernel_rfl) (by kernel_rfl) (by kernel_rfl) (by decide)
 ·refine J.condF (x := .tmp 21) (t := (!x1_1.2.2.2)) (by kernel_rfl) (by kernel_rfl) hc1 ?_
  refine J.skip (by kernel_rfl) ?_
  refine J.seq (by kernel_rfl) ?_
  refine J.seq (by kernel_rfl) ?_
  refine J.region (by kernel_rfl) ?_
  refine O.pure 2 [] [1, 5, 23] [] (fr' := [(1, .pointer (some ⟨p0_0, 0, none⟩)), (5, .int .i64 x1_1.1), (23, .bool (x1_1.1 == 0))]) (bx' := [⟨p0_0, [.slice h0.1 a0.f0.length h0.2], 24⟩]) (by kernel_rfl) ?_
  refine O.nil (by kernel_rfl) ?_
  rcases condE H with ⟨hc2, H⟩ | ⟨hc2, H⟩
  ·refine J.condT (x := .tmp 23) (t := (x1_1.1 == 0)) (by kernel_rfl) (by kernel_rfl) hc2 ?_
   refine J.seq (by kernel_rfl) ?_
   refine J.region (by kernel_rfl) ?_
   refine O.pure 3 [] [2, 3, 4] [] (fr' := [(2, .int .i64 0), (3, .slice none 0 0), (4, .int .i64 4)]) (bx' := [⟨p0_0, [.slice h0.1 a0.f0.length h0.2], 24⟩]) (by kernel_rfl) ?_
   refine O.nil (by kernel_rfl) ?_
   obtain rfl := Option.some.inj H
   refine J.nilF (Kd.int .u8) ?_
   exact J.doneS [] [] [0] [] [] (none, 0) (vs := [.int .i64 0, .slice none 0 0, .int .i64 4]) (by kernel_rfl) (by kernel_rfl) (by kernel_rfl) (by kernel_rfl) (by kernel_rfl) (by decide)
  ·refine J.condF (x := .tmp 23) (t := (x1_1.1 == 0)) (by kernel_rfl) (by kernel_rfl) hc2 ?_
   refine J.skip (by kernel_rfl) ?_
   refine J.seq (by kernel_rfl) ?_
   obtain ⟨x6_2, hx6_2, H⟩ := bindE H
   obtain ⟨x6_3, hx6_3, H⟩ := bindE H
   refine J.drawS (by kernel_rfl) [(0, some 25, .agg #[.slice h0.1 a0.f0.length h0.2]), (1, some 26, .int .i64 x1_1.1)] ([0, 1] ++ []) (by kernel_rfl) ?_
   refine D.mid (cs := [2]) [0, 1] [] [(0, 0)] [p0_0, 0] (by kernel_rfl) (by kernel_rfl) trivial (by kernel_rfl) ⟨?_, trivial⟩
   refine EvStep.mk (some 27) (new := fun _ => []) ([0] ++ []) (by kernel_rfl) (Ev.call0 (xs := [.tmp 26]) [] (by kernel_rfl) (by kernel_rfl) (fun w hS => ckpt_File.con K x1_1.1  _ _ w hS hx6_2)) (fun _ => by kernel_rfl) (fun _ => ?_)
   refine D.mid (cs := [3]) [0] [] [(0, 0)] [p0_0, 0] (by kernel_rfl) (by kernel_rfl) trivial (by kernel_rfl) ⟨?_, trivial⟩
   refine EvStep.mk (some 28) (new := fun p6_3 => [(4, some 24, .tuple #[.slice p6_3.1 x6_3.1.length p6_3.2, .int .i64 x6_3.2]), (5, some 29, .slice p6_3.1 x6_3.1.length p6_3.2), (6, some 30, .int .i64 x6_3.2), (7, some 9, .slice p6_3.1 x6_3.1.length p6_3.2), (8, some 10, .int .i64 x6_3.2)]) ([4, 5, 6, 7, 8] ++ []) (by kernel_rfl) (Ev.call0 (xs := [.tmp 25, .tmp 27]) [0] (by kernel_rfl) (by kernel_rfl) (fun w hS => disk_Get.con K a0 x6_2 h0  _ _ w hS hx6_3)) (fun p6_3 => by kernel_rfl) (fun p6_3 => ?_)
   refine D.fin (fr' := [(5, .int .i64 x1_1.1), (9, .slice p6_3.1 x6_3.1.length p6_3.2), (10, .int .i64 x6_3.2)]) [4, 5, 6, 7, 8] [] [] [] [5, 9, 10] (by kernel_rfl) (by kernel_rfl) trivial (by kernel_rfl) ?_
   refine J.seq (by kernel_rfl) ?_
   refine J.seq (by kernel_rfl) ?_
   refine J.region (by kernel_rfl) ?_
   refine O.pure 2 [] [5, 9, 32] [] (fr' := [(5, .int .i64 x1_1.1), (9, .slice p6_3.1 x6_3.1.length p6_3.2), (32, .bool (x6_3.2 != 0))]) (bx' := [⟨p0_0, [.slice h0.1 a0.f0.length h0.2], 24⟩]) (by kernel_rfl) ?_
   refine O.nil (by kernel_rfl) ?_
   rcases condE H with ⟨hc3, H⟩ | ⟨hc3, H⟩
   ·refine J.condT (x := .tmp 32) (t := (x6_3.2 != 0)) (by kernel_rfl) (by kernel_rfl) hc3 ?_
    refine J.seq (by kernel_rfl) ?_
    refine J.region (by kernel_rfl) ?_
    refine O.pure 3 [] [2, 3, 4] [] (fr' := [(2, .int .i64 0), (3, .slice none 0 0), (4, .int .i64 2)]) (bx' := [⟨p0_0, [.slice h0.1 a0.f0.length h0.2], 24⟩]) (by kernel_rfl) ?_
    refine O.nil (by kernel_rfl) ?_
    obtain rfl := Option.some.inj H
    refine J.nilF (Kd.int .u8) ?_
    exact J.doneS [] [] [0] [] [] (none, 0) (vs := [.int .i64 0, .slice none 0 0, .int .i64 2]) (by kernel_rfl) (by kernel_rfl) (by kernel_rfl) (by kernel_rfl) (by kernel_rfl) (by decide)
   ·refine J.condF (x := .tmp 32) (t := (x6_3.2 != 0)) (by kernel_rfl) (by kernel_rfl) hc3 ?_
    refine J.skip (by kernel_rfl) ?_
    refine J.seq (by kernel_rfl) ?_
    obtain ⟨x9_1, hx9_1, H⟩ := bindE H
    refine J.region (by kernel_rfl) ?_
    refine O.pure 1 [] [5, 34] [] (fr' := [(5, .int .i64 x1_1.1), (34, .slice p6_3.1 x6_3.1.length p6_3.2)]) (bx' := [⟨p0_0, [.slice h0.1 a0.f0.length h0.2], 24⟩]) (by kernel_rfl) ?_
    refine O.e (some 35) (Ev.call0 (xs := [.tmp 34]) [0] (by kernel_rfl) (by kernel_rfl) (fun w hS => code_TakeFrame.con K x6_3.1 p6_3  _ _ w hS hx9_1)) (by kernel_rfl) (fun p9_1 => ?_)
    refine O.pure 7 [] [5, 10, 11, 12] [] (fr' := [(5, .int .i64 x1_1.1), (10, .int .i64 x9_1.2.2), (11, .slice p9_1.1.1 x9_1.1.length p9_1.1.2), (12, .slice p9_1.2.1 x9_1.2.1.length p9_1.2.2)]) (bx' := [⟨p0_0, [.slice h0.1 a0.f0.length h0.2], 24⟩]) (by kernel_rfl) ?_
    refine O.nil (by kernel_rfl) ?_
    refine J.seq (by kernel_rfl) ?_
    refine J.seq (by kernel_rfl) ?_
    rcases condE H with ⟨hc4, H⟩ | ⟨hc4, H⟩
    ·refine J.region (by kernel_rfl) ?_
     refine O.pure 1 [] [5, 11, 12, 39] [] (fr' := [(5, .int .i64 x1_1.1), (11, .slice p9_1.1.1 x9_1.1.length p9_1.1.2), (12, .slice p9_1.2.1 x9_1.2.1.length p9_1.2.2), (39, .int .i64 x9_1.2.2)]) (bx' := [⟨p0_0, [.slice h0.1 a0.f0.length h0.2], 24⟩]) (by kernel_rfl) ?_
     refine O.q (v := .bool true) (some 40) (Qu.eqv (u := .bool (x9_1.2.2 != 0)) (v := .bool true) (0, 0) [] (by kernel_rfl) (congrArg Value.bool hc4)) (by kernel_rfl) ?_
     refine O.pure 5 [] [5, 11, 45] [] (fr' := [(5, .int .i64 x1_1.1), (11, .slice p9_1.1.1 x9_1.1.length p9_1.1.2), (45, .bool true)]) (bx' := [⟨p0_0, [.slice h0.1 a0.f0.length h0.2], 24⟩]) (by kernel_rfl) ?_
     refine O.nil (by kernel_rfl) ?_
     refine J.cond (o := .tmp 45) true (by kernel_rfl) (by kernel_rfl) ?_
     refine J.seq (by kernel_rfl) ?_
     refine J.region (by kernel_rfl) ?_
     refine O.pure 3 [] [2, 3, 4] [] (fr' := [(2, .int .i64 0), (3, .slice none 0 0), (4, .int .i64 2)]) (bx' := [⟨p0_0, [.slice h0.1 a0.f0.length h0.2], 24⟩]) (by kernel_rfl) ?_
     refine O.nil (by kernel_rfl) ?_
     obtain rfl := Option.some.inj H
     refine J.nilF (Kd.int .u8) ?_
     exact J.doneS [] [] [0] [] [] (none, 0) (vs := [.int .i64 0, .slice none 0 0, .int .i64 2]) (by kernel_rfl) (by kernel_rfl) (by kernel_rfl) (by kernel_rfl) (by kernel_rfl) (by decide)
    ·refine J.region (by kernel_rfl) ?_
     refine O.pure 1 [] [5, 11, 12, 39] [] (fr' := [(5, .int .i64 x1_1.1), (11, .slice p9_1.1.1 x9_1.1.length p9_1.1.2), (12, .slice p9_1.2.1 x9_1.2.1.length p9_1.2.2), (39, .int .i64 x9_1.2.2)]) (bx' := [⟨p0_0, [.slice h0.1 a0.f0.length h0.2], 24⟩]) (by kernel_rfl) ?_
     refine O.q (v := .bool false) (some 40) (Qu.eqv (u := .bool (x9_1.2.2 != 0)) (v := .bool false) (0, 0) [] (by kernel_rfl) (congrArg Value.bool hc4)) (by kernel_rfl) ?_
     refine O.pure 5 [] [5, 11, 45] [] (fr' := [(5, .int .i64 x1_1.1), (11, .slice p9_1.1.1 x9_1.1.length p9_1.1.2), (45, .bool (decide ((x9_1.2.1.length : Int) > 0)))]) (bx' := [⟨p0_0, [.slice h0.1 a0.f0.length h0.2], 24⟩]) (by kernel_rfl) ?_
     refine O.nil (by kernel_rfl) ?_
     rcases condE H with ⟨hc5, H⟩ | ⟨hc5, H⟩
     ·refine J.condT (x := .tmp 45) (t := (decide ((x9_1.2.1.length : Int) > 0))) (by kernel_rfl) (by kernel_rfl) hc5 ?_
      refine J.seq (by kernel_rfl) ?_
      refine J.region (by kernel_rfl) ?_
      refine O.pure 3 [] [2, 3, 4] [] (fr' := [(2, .int .i64 0), (3, .slice none 0 0), (4, .int .i64 2)]) (bx' := [⟨p0_0, [.slice h0.1 a0.f0.length h0.2], 24⟩]) (by kernel_rfl) ?_
      refine O.nil (by kernel_rfl) ?_
      obtain rfl := Option.some.inj H
      refine J.nilF (Kd.int .u8) ?_
      exact J.doneS [] [] [0] [] [] (none, 0) (vs := [.int .i64 0, .slice none 0 0, .int .i64 2]) (by kernel_rfl) (by kernel_rfl) (by kernel_rfl) (by kernel_rfl) (by kernel_rfl) (by decide)
     ·refine J.condF (x := .tmp 45) (t := (decide ((x9_1.2.1.length : Int) > 0))) (by kernel_rfl) (by kernel_rfl) hc5 ?_
      refine J.skip (by kernel_rfl) ?_
      refine J.seq (by kernel_rfl) ?_
      refine J.region (by kernel_rfl) ?_
      refine O.pure 5 [] [2, 3, 4] [] (fr' := [(2, .int .i64 x1_1.1), (3, .slice p9_1.1.1 x9_1.1.length p9_1.1.2), (4, .int .i64 0)]) (bx' := [⟨p0_0, [.slice h0.1 a0.f0.length h0.2], 24⟩]) (by kernel_rfl) ?_
      refine O.nil (by kernel_rfl) ?_
      obtain rfl := Option.some.inj H
      exact J.doneS [] [] [0] [] [] p9_1.1 (vs := [.int .i64 x1_1.1, .slice p9_1.1.1 x9_1.1.length p9_1.1.2, .int .i64 0]) (by kernel_rfl) (by kernel_rfl) (by kernel_rfl) (by kernel_rfl) (by kernel_rfl) (by decide)
/-! ### haywain/disk.Crash: function 27 -/
def disk_Crash.l1 (K : Nat) (a1 : List Int) (x1_1 : S24) : Nat → ((List S70) × Int) → Option S24
  | 0, _ => none
  | k + 1, s1 => cond (decide (s1.2 < (x1_1.f0.length : Int))) ((idxO s1.1 s1.2).bind fun x4_1 => (cond (decide (s1.2 < (a1.length : Int))) ((idxO a1 s1.2).bind fun x7_2 => some ((if (if (IntKind.wrap .i64 ((x4_1.f1.length : Int) - x4_1.f2)) < x7_2 then (IntKind.wrap .i64 ((x4_1.f1.length : Int) - x4_1.f2)) else x7_2) > 0 then (if (IntKind.wrap .i64 ((x4_1.f1.length : Int) - x4_1.f2)) < x7_2 then (IntKind.wrap .i64 ((x4_1.f1.length : Int) - x4_1.f2)) else x7_2) else 0))) (some (0)) : Option Int).bind fun o11 : Int => (cutO x4_1.f1 0 (IntKind.wrap .i64 (o11 + x4_1.f2))).bind fun y9_10 => (idxO s1.1 s1.2).bind fun x9_12 => disk_Crash.l1 K a1 x1_1 k (((s1.1.set s1.2.toNat (⟨x9_12.f0, (cutL x4_1.f1 ((0 : Int).toNat) (((IntKind.wrap .i64 (o11 + x4_1.f2)) : Int).toNat)), x9_12.f2⟩ : S70)).set s1.2.toNat (⟨x9_12.f0, (cutL x4_1.f1 ((0 : Int).toNat) (((IntKind.wrap .i64 (o11 + x4_1.f2)) : Int).toNat)), (IntKind.wrap .i64 (o11 + x4_1.f2))⟩ : S70)), (IntKind.wrap .i64 (s1.2 + 1)))) (some ((⟨s1.1⟩ : S24)))
def disk_Crash.f (K : Nat) (a0 : S24) (a1 : List Int) : Option S24 := (disk_own.f K a0).bind fun x1_1 => disk_Crash.l1 K a1 x1_1 K (x1_1.f0, 0)
set_option maxRecDepth 100000 in
set_option maxHeartbeats 1000000 in
theorem disk_Crash.con (K : Nat) (a0 : S24) (a1 : List Int) (h0 : Hd) (h1 : Hd) (r : S24) (X : Nat → Nat → Prop) (w : World) (hS : St X w [] [] [] [] [Rd kd70 h0.1 h0.2 a0.f0, Rd (Kd.int .i64) h1.1 h1.2 a1] w) (H : disk_Crash.f K a0 a1 = some r) :
    Cn Try.prog 27 [.agg #[.slice h0.1 a0.f0.length h0.2], .slice h1.1 a1.length h1.2] X w [] (fun i : Hd => .agg #[.slice i.1 r.f0.length i.2]) (fun i => []) (fun i => [mkRow kd70 70 (.slice i.1 r.f0.length i.2) r.f0]) (fun i => []) := by
 refine Cn.of Try.func27 (by kernel_rfl) hS ?_
 unfold disk_Crash.f at H
 refine J.seq (by kernel_rfl) ?_
 refine J.region (by kernel_rfl) ?_
 refine O.e (some 2) (Ev.box (t := 24) (x := .tmp 0) (v := .agg #[.slice h0.1 a0.f0.length h0.2]) (by kernel_rfl) (by kernel_rfl)) (by kernel_rfl) (fun p0_0 => ?_)
 refine O.e (some 4) (Ev.alloc (t := 24) (z := .agg #[.slice none 0 0]) (by kernel_rfl) (by kernel_rfl)) (by kernel_rfl) (fun p0_1 => ?_)
 refine O.nil (by kernel_rfl) ?_
 refine J.seq (by kernel_rfl) ?_
 obtain ⟨x1_1, hx1_1, H⟩ := bindE H
 refine J.region (by kernel_rfl) ?_
 refine O.pure 1 [(1, 0)] [1, 2, 4, 8] [p0_0, 0] (fr' := [(1, .slice h1.1 a1.length h1.2), (2, .pointer (some ⟨p0_0, 0, none⟩)), (4, .pointer (some ⟨p0_1, 0, none⟩)), (8, .agg #[.slice h0.1 a0.f0.length h0.2])]) (bx' := [⟨p0_1, [.slice none 0 0], 24⟩, ⟨p0_0, [.slice h0.1 a0.f0.length h0.2], 24⟩]) (by kernel_rfl) ?_
 refine O.e (some 9) (Ev.call0 (xs := [.tmp 8]) [0] (by kernel_rfl) (by kernel_rfl) (fun w hS => disk_own.con K a0 h0  _ _ w hS hx1_1)) (by kernel_rfl) (fun p1_1 => ?_)
 refine O.pure 1 [(1, 0)] [1, 2, 4] [p0_0, 0] (fr' := [(1, .slice h1.1 a1.length h1.2), (2, .pointer (some ⟨p0_0, 0, none⟩)), (4, .pointer (some ⟨p0_1, 0, none⟩))]) (bx' := [⟨p0_1, [.slice none 0 0], 24⟩, ⟨p0_0, [.slice p1_1.1 x1_1.f0.length p1_1.2], 24⟩]) (by kernel_rfl) ?_
 refine O.nil (by kernel_rfl) ?_
 refine J.seq (by kernel_rfl) ?_
 refine J.seq (by kernel_rfl) ?_
 refine J.region (by kernel_rfl) ?_
 refine O.pure 4 [(1, 0)] [1, 2, 4, 11, 12, 13] [p0_0, 0] (fr' := [(1, .slice h1.1 a1.length h1.2), (2, .pointer (some ⟨p0_0, 0, none⟩)), (4, .pointer (some ⟨p0_1, 0, none⟩)), (11, .slice p1_1.1 x1_1.f0.length p1_1.2), (12, .int .i64 (x1_1.f0.length : Int)), (13, .int .i64 0)]) (bx' := [⟨p0_1, [.slice none 0 0], 24⟩, ⟨p0_0, [.slice p1_1.1 x1_1.f0.length p1_1.2], 24⟩]) (by kernel_rfl) ?_
 refine O.nil (by kernel_rfl) ?_
 refine J.block (id := 0) (by kernel_rfl) ?_
 refine J.loopI (σ := (List S70) × Int) (γ := Hd) (f := fun m_ s_ => disk_Crash.l1 K a1 x1_1 m_ s_) (fun s1 g1 => [(1, .slice h1.1 a1.length h1.2), (2, .pointer (some ⟨p0_0, 0, none⟩)), (4, .pointer (some ⟨p0_1, 0, none⟩)), (11, .slice g1.1 s1.1.length g1.2), (12, .int .i64 (x1_1.f0.length : Int)), (13, .int .i64 s1.2)]) (fun s1 g1 => St X w [] [⟨p0_1, [.slice none 0 0], 24⟩, ⟨p0_0, [.slice g1.1 s1.1.length g1.2], 24⟩] [mkRow kd70 70 (.slice g1.1 s1.1.length g1.2) s1.1] [] [Rd kd70 h0.1 h0.2 a0.f0, Rd (Kd.int .i64) h1.1 h1.2 a1]) K (x1_1.f0, 0) p1_1 (by kernel_rfl) H (fun _ => rfl) (fun m_ s1 H ih1 g1 => ?_) (fun h_ => ?_)
 ·unfold disk_Crash.l1 at H
  refine J.seq (by kernel_rfl) ?_
  refine J.region (by kernel_rfl) ?_
  refine O.pure 1 [] [1, 2, 4, 11, 12, 13, 14] [] (fr' := [(1, .slice h1.1 a1.length h1.2), (2, .pointer (some ⟨p0_0, 0, none⟩)), (4, .pointer (some ⟨p0_1, 0, none⟩)), (11, .slice g1.1 s1.1.length g1.2), (12, .int .i64 (x1_1.f0.length : Int)), (13, .int .i64 s1.2), (14, .bool (decide (s1.2 < (x1_1.f0.length : Int))))]) (bx' := [⟨p0_1, [.slice none 0 0], 24⟩, ⟨p0_0, [.slice g1.1 s1.1.length g1.2], 24⟩]) (by kernel_rfl) ?_
  refine O.nil (by kernel_rfl) ?_
  refine J.seq (by kernel_rfl) ?_
  rcases condE H with ⟨hc10, H⟩ | ⟨hc10, H⟩
  ·refine J.condT (x := .tmp 14) (t := (decide (s1.2 < (x1_1.f0.length : Int)))) (by kernel_rfl) (by kernel_rfl) hc10 ?_
   refine J.skip (by kernel_rfl) ?_
   refine J.seq (by kernel_rfl) ?_
   refine J.block (id := 1) (by kernel_rfl) ?_
   refine J.seq (by kernel_rfl) ?_
   obtain ⟨x4_1, hx4_1, H⟩ := bindE H
   obtain ⟨hx4_1a, hx4_1⟩ := idxE hx4_1
   refine J.region (by kernel_rfl) ?_
   refine O.pure 1 [] [1, 2, 4, 11, 12, 13, 15] [] (fr' := [(1, .slice h1.1 a1.length h1.2), (2, .pointer (some ⟨p0_0, 0, none⟩)), (4, .pointer (some ⟨p0_1, 0, none⟩)), (11, .slice g1.1 s1.1.length g1.2), (12, .int .i64 (x1_1.f0.length : Int)), (13, .int .i64 s1.2), (15, .int .i64 s1.2)]) (bx' := [⟨p0_1, [.slice none 0 0], 24⟩, ⟨p0_0, [.slice g1.1 s1.1.length g1.2], 24⟩]) (by kernel_rfl) ?_
   refine O.mono (fun w hS => hS.pk) ?_
   refine O.peek (d := kd70) (hh := g1) (m := s1.1.length) (i := s1.2) (by simpa only [List.length_set] using hx4_1) (op70 _) (fun p4_1 hp4_1A => ?_)
   refine O.q (v := .pointer (some ⟨p4_1.1, 0 + s1.2.toNat * 3, none⟩)) (some 16) (Qu.idx (t := 22) (x := .tmp 11) (y := .tmp 13) (len := s1.1.length) (c := g1.2) (kk := .i64) (sz := 3) (by kernel_rfl) (by kernel_rfl) (by kernel_rfl) (by kernel_rfl) hx4_1a (by have := idx_lt hx4_1; simpa only [List.length_set, List.length_replicate] using this) hp4_1A) (by kernel_rfl) ?_
   refine O.q (v := .agg #[.string x4_1.f0, .slice p4_1.2.1 x4_1.f1.length p4_1.2.2, .int .i64 x4_1.f2]) (some 17) (Qu.loadR (t := 70) (x := .tmp 16) (hh := g1) (m := s1.1.length) (i := s1.2.toNat) (u := .pointer (some ⟨p4_1.1, 0 + s1.2.toNat * 3, none⟩)) (r := .agg #[.string x4_1.f0, .slice p4_1.2.1 x4_1.f1.length p4_1.2.2, .int .i64 x4_1.f2]) (cs := [.string x4_1.f0, .slice p4_1.2.1 x4_1.f1.length p4_1.2.2, .int .i64 x4_1.f2]) 0 0 [p4_1.1, 0 + s1.2.toNat * 3] (by kernel_rfl) (by kernel_rfl) hp4_1A rfl (by kernel_rfl)) (by kernel_rfl) ?_
   refine O.e (some 6) (Ev.alloc (t := 70) (z := .agg #[.string (⟨#[]⟩ : ByteArray), .slice none 0 0, .int .i64 0]) (by kernel_rfl) (by kernel_rfl)) (by kernel_rfl) (fun p4_3 => ?_)
   refine O.pure 2 [(0, 0)] [1, 2, 4, 5, 6, 11, 12, 13] [p4_3, 0] (fr' := [(1, .slice h1.1 a1.length h1.2), (2, .pointer (some ⟨p0_0, 0, none⟩)), (4, .pointer (some ⟨p0_1, 0, none⟩)), (5, .int .i64 s1.2), (6, .pointer (some ⟨p4_3, 0, none⟩)), (11, .slice g1.1 s1.1.length g1.2), (12, .int .i64 (x1_1.f0.length : Int)), (13, .int .i64 s1.2)]) (bx' := [⟨p4_3, [.string x4_1.f0, .slice p4_1.2.1 x4_1.f1.length p4_1.2.2, .int .i64 x4_1.f2], 70⟩, ⟨p0_1, [.slice none 0 0], 24⟩, ⟨p0_0, [.slice g1.1 s1.1.length g1.2], 24⟩]) (by kernel_rfl) ?_
   refine O.nil (by kernel_rfl) ?_
   refine J.mono (fun w hS => hS.unpk) ?_
   refine J.seq (by kernel_rfl) ?_
   refine J.region (by kernel_rfl) ?_
   refine O.pure 1 [] [1, 2, 4, 5, 6, 7, 11, 12, 13] [] (fr' := [(1, .slice h1.1 a1.length h1.2), (2, .pointer (some ⟨p0_0, 0, none⟩)), (4, .pointer (some ⟨p0_1, 0, none⟩)), (5, .int .i64 s1.2), (6, .pointer (some ⟨p4_3, 0, none⟩)), (7, .int .i64 0), (11, .slice g1.1 s1.1.length g1.2), (12, .int .i64 (x1_1.f0.length : Int)), (13, .int .i64 s1.2)]) (bx' := [⟨p4_3, [.string x4_1.f0, .slice p4_1.2.1 x4_1.f1.length p4_1.2.2, .int .i64 x4_1.f2], 70⟩, ⟨p0_1, [.slice none 0 0], 24⟩, ⟨p0_0, [.slice g1.1 s1.1.length g1.2], 24⟩]) (by kernel_rfl) ?_
   refine O.nil (by kernel_rfl) ?_
   refine J.seq (by kernel_rfl) ?_
   refine J.seq (by kernel_rfl) ?_
   refine J.region (by kernel_rfl) ?_
   refine O.pure 4 [] [1, 2, 4, 5, 6, 7, 11, 12, 13, 21] [] (fr' := [(1, .slice h1.1 a1.length h1.2), (2, .pointer (some ⟨p0_0, 0, none⟩)), (4, .pointer (some ⟨p0_1, 0, none⟩)), (5, .int .i64 s1.2), (6, .pointer (some ⟨p4_3, 0, none⟩)), (7, .int .i64 0), (11, .slice g1.1 s1.1.length g1.2), (12, .int .i64 (x1_1.f0.length : Int)), (13, .int .i64 s1.2), (21, .bool (decide (s1.2 < (a1.length : Int))))]) (bx' := [⟨p4_3, [.string x4_1.f0, .slice p4_1.2.1 x4_1.f1.length p4_1.2.2, .int .i64 x4_1.f2], 70⟩, ⟨p0_1, [.slice none 0 0], 24⟩, ⟨p0_0, [.slice g1.1 s1.1.length g1.2], 24⟩]) (by kernel_rfl) ?_
   refine O.nil (by kernel_rfl) ?_
   refine J.join (α := Int) (γ := Unit) (fun o11 q11 => [(1, .slice h1.1 a1.length h1.2), (2, .pointer (some ⟨p0_0, 0, none⟩)), (4, .pointer (some ⟨p0_1, 0, none⟩)), (5, .int .i64 s1.2), (6, .pointer (some ⟨p4_3, 0, none⟩)), (7, .int .i64 o11), (11, .slice g1.1 s1.1.length g1.2), (12, .int .i64 (x1_1.f0.length : Int)), (13, .int .i64 s1.2)]) (fun o11 q11 => St X w [] [⟨p4_3, [.string x4_1.f0, .slice p4_1.2.1 x4_1.f1.length p4_1.2.2, .int .i64 x4_1.f2], 70⟩, ⟨p0_1, [.slice none 0 0], 24⟩, ⟨p0_0, [.slice g1.1 s1.1.length g1.2], 24⟩] [mkRow kd70 70 (.slice g1.1 s1.1.length g1.2) s1.1] [] [Rd (Kd.int .u8) p4_1.2.1 p4_1.2.2 x4_1.f1, Rd kd70 h0.1 h0.2 a0.f0, Rd (Kd.int .i64) h1.1 h1.2 a1]) H (fun o11 q11 H => ?_) (fun o11 H hj11 => ?_)
   ·refine J.seq (by kernel_rfl) ?_
    refine J.region (by kernel_rfl) ?_
    refine O.pure 5 [(0, 2)] [1, 2, 4, 5, 6, 7, 11, 12, 13] [p4_3, 2] (fr' := [(1, .slice h1.1 a1.length h1.2), (2, .pointer (some ⟨p0_0, 0, none⟩)), (4, .pointer (some ⟨p0_1, 0, none⟩)), (5, .int .i64 s1.2), (6, .pointer (some ⟨p4_3, 0, none⟩)), (7, .int .i64 (IntKind.wrap .i64 (o11 + x4_1.f2))), (11, .slice g1.1 s1.1.length g1.2), (12, .int .i64 (x1_1.f0.length : Int)), (13, .int .i64 s1.2)]) (bx' := [⟨p4_3, [.string x4_1.f0, .slice p4_1.2.1 x4_1.f1.length p4_1.2.2, .int .i64 x4_1.f2], 70⟩, ⟨p0_1, [.slice none 0 0], 24⟩, ⟨p0_0, [.slice g1.1 s1.1.length g1.2], 24⟩]) (by kernel_rfl) ?_
    refine O.nil (by kernel_rfl) ?_
    obtain ⟨y9_10, hy9_10, H⟩ := bindE H
    obtain ⟨hy9_10a, hy9_10b, hy9_10c, -⟩ := cutE hy9_10
    obtain ⟨x9_12, hx9_12, H⟩ := bindE H
    obtain ⟨hx9_12a, hx9_12⟩ := idxE hx9_12
    refine J.mono (fun w hS => hS.pk) ?_
    refine J.peek (d := kd70) (hh := g1) (m := s1.1.length) (i := s1.2) (by simpa only [List.length_set] using hx9_12) (op70 _) (fun p9_12 hp9_12A => ?_)
    refine J.drawS (by kernel_rfl) [(0, some 38, .pointer (some ⟨p0_0, 0, none⟩)), (1, some 39, .slice g1.1 s1.1.length g1.2), (2, some 40, .int .i64 s1.2), (3, some 41, .pointer (some ⟨p0_0, 0, none⟩)), (4, some 42, .slice g1.1 s1.1.length g1.2), (5, some 43, .int .i64 s1.2), (6, some 44, .pointer (some ⟨p4_3, 1, none⟩)), (7, some 45, .slice p4_1.2.1 x4_1.f1.length p4_1.2.2), (8, some 46, .int .i64 (IntKind.wrap .i64 (o11 + x4_1.f2))), (9, some 47, .int .i64 (IntKind.wrap .i64 (o11 + x4_1.f2))), (11, some 49, .int .i64 (IntKind.wrap .i64 (o11 + x4_1.f2)))] ([0, 1, 2, 3, 4, 5, 6, 7, 8, 9, 11] ++ []) (by kernel_rfl) ?_
    refine D.mid (cs := [10]) [0, 1, 2, 3, 4, 5, 6, 7, 8, 9, 11] [] [(2, 0), (2, 0), (0, 1)] [p0_0, 0, p0_0, 0, p4_3, 1] (by kernel_rfl) (by kernel_rfl) trivial (by kernel_rfl) ⟨?_, trivial⟩
    refine EvStep.mk (some 48) (new := fun p9_10 => [(12, some 50, .pointer (some ⟨p9_12.1, 0 + s1.2.toNat * 3, none⟩)), (13, some 51, .pointer (some ⟨p9_12.1, 0 + s1.2.toNat * 3 + 1, none⟩))]) ([0, 1, 2, 3, 4, 5, 6, 11, 13] ++ [12]) (by kernel_rfl) (Ev.cut3 (d := (Kd.int .u8)) (xs := x4_1.f1) (t := 27) (x := .tmp 45) (lo := none) (hi := (some (.tmp 46))) (mx := (some (.tmp 47))) (vlo := none) (vhi := (some (.int .i64 (IntKind.wrap .i64 (o11 + x4_1.f2))))) (vmx := (some (.int .i64 (IntKind.wrap .i64 (o11 + x4_1.f2))))) (A := p4_1.2.1) (c := p4_1.2.2) (l := (0 : Int).toNat) (h := ((IntKind.wrap .i64 (o11 + x4_1.f2)) : Int).toNat) 1 (by kernel_rfl) (by kernel_rfl) (by kernel_rfl) (by kernel_rfl) (by kernel_rfl) (by kernel_rfl) (Bd.dflt _) ⟨_, _, rfl, by omega, rfl⟩ ⟨_, _, rfl, by omega, rfl⟩ (by omega) (by omega) rfl) (fun p9_10 => by kernel_rfl) (fun p9_10 => ?_)
    refine D.mid (cs := [14]) [0, 1, 2, 3, 4, 5, 6, 11, 13] [12] [(2, 0), (2, 0)] [p0_0, 0, p0_0, 0] (by kernel_rfl) (by kernel_rfl) (⟨QuAt.mk (v := .pointer (some ⟨p9_12.1, 0 + s1.2.toNat * 3, none⟩)) (some 50) (by kernel_rfl) (by kernel_rfl) (Qu.idx (t := 22) (x := .tmp 39) (y := .tmp 40) (len := s1.1.length) (c := g1.2) (kk := .i64) (sz := 3) (by kernel_rfl) (by kernel_rfl) (by kernel_rfl) (by kernel_rfl) hx9_12a (by have := idx_lt hx9_12; simpa only [List.length_set, List.length_replicate] using this) hp9_12A), trivial⟩) (by kernel_rfl) ⟨?_, trivial⟩
    refine EvStep.mk none (new := fun _ => [(15, some 52, .pointer (some ⟨p9_12.1, 0 + s1.2.toNat * 3, none⟩)), (16, some 53, .pointer (some ⟨p9_12.1, 0 + s1.2.toNat * 3 + 2, none⟩))]) ([3, 4, 5, 11, 16] ++ [12, 15]) (by kernel_rfl) (Ev.storeR (t := 27) (x := .tmp 51) (y := .tmp 48) (hh := g1) (m := s1.1.length) (g := p9_12.1) (i := s1.2.toNat) (f := 1) (s := 1) (u := .pointer (some ⟨p9_12.1, 0 + s1.2.toNat * 3 + 1, none⟩)) (z := .slice ((p9_10, (cutL x4_1.f1 ((0 : Int).toNat) (((IntKind.wrap .i64 (o11 + x4_1.f2)) : Int).toNat)).length) : Hd).1 (cutL x4_1.f1 ((0 : Int).toNat) (((IntKind.wrap .i64 (o11 + x4_1.f2)) : Int).toNat)).length ((p9_10, (cutL x4_1.f1 ((0 : Int).toNat) (((IntKind.wrap .i64 (o11 + x4_1.f2)) : Int).toNat)).length) : Hd).2) (cs := [.string x9_12.f0, .slice p9_12.2.1 x9_12.f1.length p9_12.2.2, .int .i64 x9_12.f2]) (ncs := [.string x9_12.f0, .slice ((p9_10, (cutL x4_1.f1 ((0 : Int).toNat) (((IntKind.wrap .i64 (o11 + x4_1.f2)) : Int).toNat)).length) : Hd).1 (cutL x4_1.f1 ((0 : Int).toNat) (((IntKind.wrap .i64 (o11 + x4_1.f2)) : Int).toNat)).length ((p9_10, (cutL x4_1.f1 ((0 : Int).toNat) (((IntKind.wrap .i64 (o11 + x4_1.f2)) : Int).toNat)).length) : Hd).2, .int .i64 x9_12.f2]) (⟨x9_12.f0, (cutL x4_1.f1 ((0 : Int).toNat) (((IntKind.wrap .i64 (o11 + x4_1.f2)) : Int).toNat)), x9_12.f2⟩ : S70) (some 0) (by kernel_rfl) (by kernel_rfl) rfl (by kernel_rfl) hp9_12A (by have := idx_lt hx9_12; simpa only [List.length_set] using this) ⟨by kernel_rfl, by kernel_rfl, by kernel_rfl, by kernel_rfl⟩ rfl (by kernel_rfl) (fun w' hφ => ⟨((p9_10, (cutL x4_1.f1 ((0 : Int).toNat) (((IntKind.wrap .i64 (o11 + x4_1.f2)) : Int).toNat)).length) : Hd), rfl, hφ _ (List.mem_of_getElem? (i := 0) rfl)⟩)) (fun _ => by kernel_rfl) (fun _ => ?_)
    refine D.mid (cs := [17]) [3, 4, 5, 11, 16] [12, 15] [(2, 0)] [p0_0, 0] (by kernel_rfl) (by kernel_rfl) (⟨QuAt.mk (v := .pointer (some ⟨p9_12.1, 0 + s1.2.toNat * 3, none⟩)) (some 50) (by kernel_rfl) (by kernel_rfl) (Qu.idx (t := 22) (x := .tmp 39) (y := .tmp 40) (len := s1.1.length) (c := g1.2) (kk := .i64) (sz := 3) (by kernel_rfl) (by kernel_rfl) (by kernel_rfl) (by kernel_rfl) hx9_12a (by have := idx_lt hx9_12; simpa only [List.length_set, List.length_replicate] using this) hp9_12A), QuAt.mk (v := .pointer (some ⟨p9_12.1, 0 + s1.2.toNat * 3, none⟩)) (some 52) (by kernel_rfl) (by kernel_rfl) (Qu.idx (t := 22) (x := .tmp 42) (y := .tmp 43) (len := s1.1.length) (c := g1.2) (kk := .i64) (sz := 3) (by kernel_rfl) (by kernel_rfl) (by kernel_rfl) (by kernel_rfl) hx9_12a (by have := idx_lt hx9_12; simpa only [List.length_set, List.length_replicate] using this) hp9_12A), trivial⟩) (by kernel_rfl) ⟨?_, trivial⟩
    refine EvStep.mk none (new := fun _ => []) ([] ++ [15]) (by kernel_rfl) (Ev.storeR (t := 3) (x := .tmp 53) (y := .tmp 49) (hh := g1) (m := s1.1.length) (g := p9_12.1) (i := s1.2.toNat) (f := 2) (s := 1) (u := .pointer (some ⟨p9_12.1, 0 + s1.2.toNat * 3 + 2, none⟩)) (z := .int .i64 (IntKind.wrap .i64 (o11 + x4_1.f2))) (cs := [.string x9_12.f0, .slice ((p9_10, (cutL x4_1.f1 ((0 : Int).toNat) (((IntKind.wrap .i64 (o11 + x4_1.f2)) : Int).toNat)).length) : Hd).1 (cutL x4_1.f1 ((0 : Int).toNat) (((IntKind.wrap .i64 (o11 + x4_1.f2)) : Int).toNat)).length ((p9_10, (cutL x4_1.f1 ((0 : Int).toNat) (((IntKind.wrap .i64 (o11 + x4_1.f2)) : Int).toNat)).length) : Hd).2, .int .i64 x9_12.f2]) (ncs := [.string x9_12.f0, .slice ((p9_10, (cutL x4_1.f1 ((0 : Int).toNat) (((IntKind.wrap .i64 (o11 + x4_1.f2)) : Int).toNat)).length) : Hd).1 (cutL x4_1.f1 ((0 : Int).toNat) (((IntKind.wrap .i64 (o11 + x4_1.f2)) : Int).toNat)).length ((p9_10, (cutL x4_1.f1 ((0 : Int).toNat) (((IntKind.wrap .i64 (o11 + x4_1.f2)) : Int).toNat)).length) : Hd).2, .int .i64 (IntKind.wrap .i64 (o11 + x4_1.f2))]) (⟨x9_12.f0, (cutL x4_1.f1 ((0 : Int).toNat) (((IntKind.wrap .i64 (o11 + x4_1.f2)) : Int).toNat)), (IntKind.wrap .i64 (o11 + x4_1.f2))⟩ : S70) (some 0) (by kernel_rfl) (by kernel_rfl) rfl (by kernel_rfl) hp9_12A (by have := idx_lt hx9_12; simpa only [List.length_set] using this) ⟨by kernel_rfl, by kernel_rfl, by kernel_rfl, by kernel_rfl⟩ rfl (by kernel_rfl) (fun w' hφ => ⟨((p9_10, (cutL x4_1.f1 ((0 : Int).toNat) (((IntKind.wrap .i64 (o11 + x4_1.f2)) : Int).toNat)).length) : Hd), rfl, hφ _ (List.mem_of_getElem? (i := 0) rfl)⟩)) (fun _ => by kernel_rfl) (fun _ => ?_)
    refine D.fin (fr' := [(1, .slice h1.1 a1.length h1.2), (2, .pointer (some ⟨p0_0, 0, none⟩)), (4, .pointer (some ⟨p0_1, 0, none⟩)), (11, .slice g1.1 s1.1.length g1.2), (12, .int .i64 (x1_1.f0.length : Int)), (13, .int .i64 s1.2)]) [] [15] [] [] [1, 2, 4, 11, 12, 13] (by kernel_rfl) (by kernel_rfl) (⟨QuAt.mk (v := .pointer (some ⟨p9_12.1, 0 + s1.2.toNat * 3, none⟩)) (some 52) (by kernel_rfl) (by kernel_rfl) (Qu.idx (t := 22) (x := .tmp 42) (y := .tmp 43) (len := s1.1.length) (c := g1.2) (kk := .i64) (sz := 3) (by kernel_rfl) (by kernel_rfl) (by kernel_rfl) (by kernel_rfl) hx9_12a (by have := idx_lt hx9_12; simpa only [List.length_set, List.length_replicate] using this) hp9_12A), trivial⟩) (by kernel_rfl) ?_
    refine J.mono (fun w hS => hS.unpk) ?_
    refine J.renS [1, 2, 4, 11, 12, 13] (fr1 := [(1, .slice h1.1 a1.length h1.2), (2, .pointer (some ⟨p0_0, 0, none⟩)), (4, .pointer (some ⟨p0_1, 0, none⟩)), (11, .slice g1.1 s1.1.length g1.2), (12, .int .i64 (x1_1.f0.length : Int)), (13, .int .i64 s1.2)]) (bx1 := [⟨p4_3, [.string x4_1.f0, .slice p4_1.2.1 x4_1.f1.length p4_1.2.2, .int .i64 x4_1.f2], 70⟩, ⟨p0_1, [.slice none 0 0], 24⟩, ⟨p0_0, [.slice g1.1 s1.1.length g1.2], 24⟩]) (rw1 := [mkRow kd70 70 (.slice g1.1 s1.1.length g1.2) ((s1.1.set s1.2.toNat (⟨x9_12.f0, (cutL x4_1.f1 ((0 : Int).toNat) (((IntKind.wrap .i64 (o11 + x4_1.f2)) : Int).toNat)), x9_12.f2⟩ : S70)).set s1.2.toNat (⟨x9_12.f0, (cutL x4_1.f1 ((0 : Int).toNat) (((IntKind.wrap .i64 (o11 + x4_1.f2)) : Int).toNat)), (IntKind.wrap .i64 (o11 + x4_1.f2))⟩ : S70))]) (fr' := [(1, .slice h1.1 a1.length h1.2), (2, .pointer (some ⟨p0_0, 0, none⟩)), (4, .pointer (some ⟨p0_1, 0, none⟩)), (11, .slice g1.1 ((s1.1.set s1.2.toNat (⟨x9_12.f0, (cutL x4_1.f1 ((0 : Int).toNat) (((IntKind.wrap .i64 (o11 + x4_1.f2)) : Int).toNat)), x9_12.f2⟩ : S70)).set s1.2.toNat (⟨x9_12.f0, (cutL x4_1.f1 ((0 : Int).toNat) (((IntKind.wrap .i64 (o11 + x4_1.f2)) : Int).toNat)), (IntKind.wrap .i64 (o11 + x4_1.f2))⟩ : S70)).length g1.2), (12, .int .i64 (x1_1.f0.length : Int)), (13, .int .i64 s1.2)]) (bx' := [⟨p4_3, [.string x4_1.f0, .slice p4_1.2.1 x4_1.f1.length p4_1.2.2, .int .i64 x4_1.f2], 70⟩, ⟨p0_1, [.slice none 0 0], 24⟩, ⟨p0_0, [.slice g1.1 ((s1.1.set s1.2.toNat (⟨x9_12.f0, (cutL x4_1.f1 ((0 : Int).toNat) (((IntKind.wrap .i64 (o11 + x4_1.f2)) : Int).toNat)), x9_12.f2⟩ : S70)).set s1.2.toNat (⟨x9_12.f0, (cutL x4_1.f1 ((0 : Int).toNat) (((IntKind.wrap .i64 (o11 + x4_1.f2)) : Int).toNat)), (IntKind.wrap .i64 (o11 + x4_1.f2))⟩ : S70)).length g1.2], 24⟩]) (rw' := [mkRow kd70 70 (.slice g1.1 ((s1.1.set s1.2.toNat (⟨x9_12.f0, (cutL x4_1.f1 ((0 : Int).toNat) (((IntKind.wrap .i64 (o11 + x4_1.f2)) : Int).toNat)), x9_12.f2⟩ : S70)).set s1.2.toNat (⟨x9_12.f0, (cutL x4_1.f1 ((0 : Int).toNat) (((IntKind.wrap .i64 (o11 + x4_1.f2)) : Int).toNat)), (IntKind.wrap .i64 (o11 + x4_1.f2))⟩ : S70)).length g1.2) ((s1.1.set s1.2.toNat (⟨x9_12.f0, (cutL x4_1.f1 ((0 : Int).toNat) (((IntKind.wrap .i64 (o11 + x4_1.f2)) : Int).toNat)), x9_12.f2⟩ : S70)).set s1.2.toNat (⟨x9_12.f0, (cutL x4_1.f1 ((0 : Int).toNat) (((IntKind.wrap .i64 (o11 + x4_1.f2)) : Int).toNat)), (IntKind.wrap .i64 (o11 + x4_1.f2))⟩ : S70))]) (by kernel_rfl) (by kernel_rfl) (by simp only [List.length_set, List.length_replicate]) ?_
    refine J.out ?_
    refine J.region (by kernel_rfl) ?_
    refine O.pure 2 [] [1, 2, 4, 11, 12, 13] [] (fr' := [(1, .slice h1.1 a1.length h1.2), (2, .pointer (some ⟨p0_0, 0, none⟩)), (4, .pointer (some ⟨p0_1, 0, none⟩)), (11, .slice g1.1 ((s1.1.set s1.2.toNat (⟨x9_12.f0, (cutL x4_1.f1 ((0 : Int).toNat) (((IntKind.wrap .i64 (o11 + x4_1.f2)) : Int).toNat)), x9_12.f2⟩ : S70)).set s1.2.toNat (⟨x9_12.f0, (cutL x4_1.f1 ((0 : Int).toNat) (((IntKind.wrap .i64 (o11 + x4_1.f2)) : Int).toNat)), (IntKind.wrap .i64 (o11 + x4_1.f2))⟩ : S70)).length g1.2), (12, .int .i64 (x1_1.f0.length : Int)), (13, .int .i64 (IntKind.wrap .i64 (s1.2 + 1)))]) (bx' := [⟨p4_3, [.string x4_1.f0, .slice p4_1.2.1 x4_1.f1.length p4_1.2.2, .int .i64 x4_1.f2], 70⟩, ⟨p0_1, [.slice none 0 0], 24⟩, ⟨p0_0, [.slice g1.1 ((s1.1.set s1.2.toNat (⟨x9_12.f0, (cutL x4_1.f1 ((0 : Int).toNat) (((IntKind.wrap .i64 (o11 + x4_1.f2)) : Int).toNat)), x9_12.f2⟩ : S70)).set s1.2.toNat (⟨x9_12.f0, (cutL x4_1.f1 ((0 : Int).toNat) (((IntKind.wrap .i64 (o11 + x4_1.f2)) : Int).toNat)), (IntKind.wrap .i64 (o11 + x4_1.f2))⟩ : S70)).length g1.2], 24⟩]) (by kernel_rfl) ?_
    refine O.nil (by kernel_rfl) ?_
    exact J.conv2 [1, 2, 4, 11, 12, 13] [3, 4] [1, 2] [0] (by kernel_rfl) (by kernel_rfl) (by kernel_rfl) (by kernel_rfl) (by decide) (ih1 (((s1.1.set s1.2.toNat (⟨x9_12.f0, (cutL x4_1.f1 ((0 : Int).toNat) (((IntKind.wrap .i64 (o11 + x4_1.f2)) : Int).toNat)), x9_12.f2⟩ : S70)).set s1.2.toNat (⟨x9_12.f0, (cutL x4_1.f1 ((0 : Int).toNat) (((IntKind.wrap .i64 (o11 + x4_1.f2)) : Int).toNat)), (IntKind.wrap .i64 (o11 + x4_1.f2))⟩ : S70)), (IntKind.wrap .i64 (s1.2 + 1))) g1 H)
   ·rcases condE H with ⟨hc13, H⟩ | ⟨hc13, H⟩
    ·refine J.condT (x := .tmp 21) (t := (decide (s1.2 < (a1.length : Int)))) (by kernel_rfl) (by kernel_rfl) hc13 ?_
     obtain ⟨x7_2, hx7_2, H⟩ := bindE H
     obtain ⟨hx7_2a, hx7_2⟩ := idxE hx7_2
     refine J.open (d := (Kd.int .i64)) (h := h1) (i := s1.2) 2 rfl hx7_2 (Lay.int _ _) (fun p7_2 hp7_2A => ?_)
     refine J.drawS (by kernel_rfl) [(0, some 22, .slice h1.1 a1.length h1.2), (1, some 23, .int .i64 s1.2), (3, some 25, .int .i64 x7_2), (4, some 26, .pointer (some ⟨p4_3, 1, none⟩)), (5, some 27, .slice p4_1.2.1 x4_1.f1.length p4_1.2.2), (6, some 28, .int .i64 (x4_1.f1.length : Int)), (7, some 29, .pointer (some ⟨p4_3, 2, none⟩)), (8, some 30, .int .i64 x4_1.f2), (9, some 31, .int .i64 (IntKind.wrap .i64 ((x4_1.f1.length : Int) - x4_1.f2))), (10, some 32, .int .i64 (if (IntKind.wrap .i64 ((x4_1.f1.length : Int) - x4_1.f2)) < x7_2 then (IntKind.wrap .i64 ((x4_1.f1.length : Int) - x4_1.f2)) else x7_2)), (11, some 33, .int .i64 (if (if (IntKind.wrap .i64 ((x4_1.f1.length : Int) - x4_1.f2)) < x7_2 then (IntKind.wrap .i64 ((x4_1.f1.length : Int) - x4_1.f2)) else x7_2) > 0 then (if (IntKind.wrap .i64 ((x4_1.f1.length : Int) - x4_1.f2)) < x7_2 then (IntKind.wrap .i64 ((x4_1.f1.length : Int) - x4_1.f2)) else x7_2) else 0)), (12, some 7, .int .i64 (if (if (IntKind.wrap .i64 ((x4_1.f1.length : Int) - x4_1.f2)) < x7_2 then (IntKind.wrap .i64 ((x4_1.f1.length : Int) - x4_1.f2)) else x7_2) > 0 then (if (IntKind.wrap .i64 ((x4_1.f1.length : Int) - x4_1.f2)) < x7_2 then (IntKind.wrap .i64 ((x4_1.f1.length : Int) - x4_1.f2)) else x7_2) else 0)), (2, some 24, .pointer (some ⟨p7_2.1, p7_2.2.1 + s1.2.toNat * 1, none⟩))] ([0, 1, 3, 4, 5, 6, 7, 8, 9, 10, 11, 12] ++ [2]) (by kernel_rfl) ?_
     refine D.fin (fr' := [(1, .slice h1.1 a1.length h1.2), (2, .pointer (some ⟨p0_0, 0, none⟩)), (4, .pointer (some ⟨p0_1, 0, none⟩)), (5, .int .i64 s1.2), (6, .pointer (some ⟨p4_3, 0, none⟩)), (7, .int .i64 (if (if (IntKind.wrap .i64 ((x4_1.f1.length : Int) - x4_1.f2)) < x7_2 then (IntKind.wrap .i64 ((x4_1.f1.length : Int) - x4_1.f2)) else x7_2) > 0 then (if (IntKind.wrap .i64 ((x4_1.f1.length : Int) - x4_1.f2)) < x7_2 then (IntKind.wrap .i64 ((x4_1.f1.length : Int) - x4_1.f2)) else x7_2) else 0)), (11, .slice g1.1 s1.1.length g1.2), (12, .int .i64 (x1_1.f0.length : Int)), (13, .int .i64 s1.2)]) [0, 1, 3, 4, 5, 6, 7, 8, 9, 10, 11, 12] [2] [(3, 0), (0, 1), (0, 2)] [p7_2.1, p7_2.2.1 + s1.2.toNat * 1, p4_3, 1, p4_3, 2] [1, 2, 4, 5, 6, 7, 11, 12, 13] (by kernel_rfl) (by kernel_rfl) (⟨QuAt.mk (v := .pointer (some ⟨p7_2.1, p7_2.2.1 + s1.2.toNat * 1, none⟩)) (some 24) (by kernel_rfl) (by kernel_rfl) (Qu.idx (t := 59) (x := .tmp 22) (y := .tmp 23) (c := h1.2) (kk := .i64) (sz := 1) (by kernel_rfl) (by kernel_rfl) (by kernel_rfl) (by kernel_rfl) hx7_2a (idx_lt hx7_2) hp7_2A), trivial⟩) (by kernel_rfl) ?_
     obtain rfl := Option.some.inj H
     exact J.conv2 [1, 2, 4, 5, 6, 7, 11, 12, 13] [0, 1, 2] [0, 1, 2] [0] (by kernel_rfl) (by kernel_rfl) (by kernel_rfl) (by kernel_rfl) (by decide) (hj11 ())
    ·refine J.condF (x := .tmp 21) (t := (decide (s1.2 < (a1.length : Int)))) (by kernel_rfl) (by kernel_rfl) hc13 ?_
     refine J.skip (by kernel_rfl) ?_
     obtain rfl := Option.some.inj H
     exact J.conv2 [1, 2, 4, 5, 6, 7, 11, 12, 13] [0, 1, 2] [0, 1, 2] [0] (by kernel_rfl) (by kernel_rfl) (by kernel_rfl) (by kernel_rfl) (by decide) (hj11 ())
  ·refine J.condF (x := .tmp 14) (t := (decide (s1.2 < (x1_1.f0.length : Int)))) (by kernel_rfl) (by kernel_rfl) hc10 ?_
   refine J.exit (id := 0) (by kernel_rfl) rfl ?_
   refine J.seq (by kernel_rfl) ?_
   refine J.region (by kernel_rfl) ?_
   refine O.pure 2 [(1, 0), (0, 0)] [4] [p0_0, 0, p0_1, 0] (fr' := [(4, .pointer (some ⟨p0_1, 0, none⟩))]) (bx' := [⟨p0_1, [.slice g1.1 s1.1.length g1.2], 24⟩, ⟨p0_0, [.slice g1.1 s1.1.length g1.2], 24⟩]) (by kernel_rfl) ?_
   refine O.nil (by kernel_rfl) ?_
   obtain rfl := Option.some.inj H
   exact J.doneS [(0, 0)] [p0_1, 0] [] [] [0] g1 (vs := [.agg #[.slice g1.1 s1.1.length g1.2]]) (by kernel_rfl) (by kernel_rfl) (by kernel_rfl) (by kernel_rfl) (by kernel_rfl) (by decide)
 ·exact J.conv2 [1, 2, 4, 11, 12, 13] [0, 1] [0, 1] [0] (by kernel_rfl) (by kernel_rfl) (by kernel_rfl) (by kernel_rfl) (by decide) h_
/-! ### haywain/haywainlaw14.knows: function 10 -/
def haywainlaw14_knows.f (K : Nat) : Option Bool := (ckpt_Save.f K (⟨([] : List S70)⟩ : S24) 7 ([104, 97, 121] : List Int)).bind fun x1_3 => (ckpt_Do.f K (⟨([] : List S70)⟩ : S24) x1_3.1 9).bind fun x2_2 => (ckpt_Last.f K x2_2.1).bind fun x3_1 => (ckpt_Save.f K x2_2.1 8 ([] : List Int)).bind fun x4_1 => (ckpt_Do.f K (⟨([] : List S70)⟩ : S24) x1_3.1 3).bind fun x5_2 => (disk_Crash.f K x5_2.1 ([] : List Int)).bind fun x6_1 => (ckpt_Last.f K x6_1).bind fun x6_2 => cond (x1_3.2 == 0) (cond (x2_2.2 == 4) (cond ((x1_3.1.length : Int) == 4) ((idxO x1_3.1 0).bind fun x7_13 => cond (x7_13.f1.toList == (⟨#[99, 55]⟩ : ByteArray).toList) ((idxO x1_3.1 0).bind fun x7_20 => cond ((x7_20.f2.length : Int) == 11) (cond (x3_1.1 == 7) (cond ((strOfNums x3_1.2.1).toList == (⟨#[104, 97, 121]⟩ : ByteArray).toList) (cond (x3_1.2.2 == 0) (cond (x4_1.2 == 0) (cond ((x4_1.1.length : Int) == 5) ((idxO x4_1.1 4).bind fun x7_50 => cond (x7_50.f0 == 1) ((idxO x4_1.1 4).bind fun x7_57 => cond (x7_57.f1.toList == (⟨#[99, 55]⟩ : ByteArray).toList) (cond (x6_2.2.2 == 4) ((ckpt_File.f K 12).bind fun x7_67 => some ((x7_67.toList == (⟨#[99, 49, 50]⟩ : ByteArray).toList))) (some (false))) (some (false))) (some (false))) (some (false))) (some (false))) (some (false))) (some (false))) (some (false))) (some (false))) (some (false))) (some (false))) (some (false))) (some (false))
set_option maxRecDepth 100000 in
set_option maxHeartbeats 1000000 in
theorem haywainlaw14_knows.con (K : Nat) (r : Bool) (X : Nat → Nat → Prop) (w : World) (hS : St X w [] [] [] [] [] w) (H : haywainlaw14_knows.f K = some r) (hr : r = true) :
    Cn Try.prog 10 [] X w [] (fun i : Unit => .bool r) (fun i => []) (fun i => []) (fun i => []) := by
 refine Cn.of Try.func10 (by kernel_rfl) hS ?_
 unfold haywainlaw14_knows.f at H
 refine J.seq (by kernel_rfl) ?_
 refine J.region (by kernel_rfl) ?_
 refine O.pure 1 [] [] [] (fr' := []) (bx' := []) (by kernel_rfl) ?_
 refine O.nil (by kernel_rfl) ?_
 refine J.seq (by kernel_rfl) ?_
 obtain ⟨x1_3, hx1_3, H⟩ := bindE H
 refine J.region (by kernel_rfl) ?_
 refine O.pure 1 [] [16] [] (fr' := [(16, .agg #[.slice none 0 0])]) (bx' := []) (by kernel_rfl) ?_
 refine O.e (some 17) (Ev.lit (t := 27) (len := 3) (parts := #[(0, .const (.int .u8 104)), (1, .const (.int .u8 97)), (2, .const (.int .u8 121))]) (ps := [(0, .int .u8 104), (1, .int .u8 97), (2, .int .u8 121)]) (cs := [.int .u8 104, .int .u8 97, .int .u8 121]) (e := 5) (Kd.int .u8) ([104, 97, 121] : List Int) (by kernel_rfl) (by kernel_rfl) (by kernel_rfl) (by kernel_rfl) (by kernel_rfl) (by decide) (fun w' hφ => (Els.cons (c := [.int .u8 104]) (rfl) (Els.cons (c := [.int .u8 97]) (rfl) (Els.cons (c := [.int .u8 121]) (rfl) (Els.nil _ _ _)))))) (by kernel_rfl) (fun p1_1 => ?_)
 refine O.e (some 18) (Ev.mark (t := 27) (e := 5) (x := .tmp 17) (g := p1_1) (m := 3) (c := 3) (xs := ([104, 97, 121] : List Int)) (by kernel_rfl) (by kernel_rfl) (by kernel_rfl) (by kernel_rfl) rfl) (by kernel_rfl) (fun _ => ?_)
 refine O.e (some 19) (Ev.mono (fun w hS => hS.add (fun w' _ => Rd.nil kd70 w')) (Ev.call0 (xs := [.tmp 16, .const (.int .i64 7), .tmp 18]) [0, 1] (by kernel_rfl) (by kernel_rfl) (fun w hS => ckpt_Save.con K (⟨([] : List S70)⟩ : S24) 7 ([104, 97, 121] : List Int) (none, 0) ((some ⟨p1_1, 0, none⟩, 3) : Hd)  _ _ w hS hx1_3))) (by kernel_rfl) (fun p1_3 => ?_)
 refine O.pure 5 [] [1, 2] [] (fr' := [(1, .slice p1_3.1 x1_3.1.length p1_3.2), (2, .int .i64 x1_3.2)]) (bx' := []) (by kernel_rfl) ?_
 refine O.nil (by kernel_rfl) ?_
 refine J.seq (by kernel_rfl) ?_
 obtain ⟨x2_2, hx2_2, H⟩ := bindE H
 refine J.region (by kernel_rfl) ?_
 refine O.pure 2 [] [1, 2, 23, 24] [] (fr' := [(1, .slice p1_3.1 x1_3.1.length p1_3.2), (2, .int .i64 x1_3.2), (23, .agg #[.slice none 0 0]), (24, .slice p1_3.1 x1_3.1.length p1_3.2)]) (bx' := []) (by kernel_rfl) ?_
 refine O.e (some 25) (Ev.mono (fun w hS => hS.freezeH (h := p1_3) (xs := x1_3.1)) (Ev.call0 (xs := [.tmp 23, .tmp 24, .const (.int .i64 9)]) [1, 0] (by kernel_rfl) (by kernel_rfl) (fun w hS => ckpt_Do.con K (⟨([] : List S70)⟩ : S24) x1_3.1 9 (none, 0) p1_3  _ _ w hS hx2_2))) (by kernel_rfl) (fun p2_2 => ?_)
 refine O.pure 3 [] [1, 2, 26, 27] [] (fr' := [(1, .slice p1_3.1 x1_3.1.length p1_3.2), (2, .int .i64 x1_3.2), (26, .agg #[.slice p2_2.1 x2_2.1.f0.length p2_2.2]), (27, .int .i64 x2_2.2)]) (bx' := []) (by kernel_rfl) ?_
 refine O.e (some 3) (Ev.alloc (t := 24) (z := .agg #[.slice none 0 0]) (by kernel_rfl) (by kernel_rfl)) (by kernel_rfl) (fun p2_6 => ?_)
 refine O.pure 2 [(0, 0)] [1, 2, 3, 4] [p2_6, 0] (fr' := [(1, .slice p1_3.1 x1_3.1.length p1_3.2), (2, .int .i64 x1_3.2), (3, .pointer (some ⟨p2_6, 0, none⟩)), (4, .int .i64 x2_2.2)]) (bx' := [⟨p2_6, [.slice p2_2.1 x2_2.1.f0.length p2_2.2], 24⟩]) (by kernel_rfl) ?_
 refine O.nil (by kernel_rfl) ?_
 refine J.seq (by kernel_rfl) ?_
 obtain ⟨x3_1, hx3_1, H⟩ := bindE H
 refine J.region (by kernel_rfl) ?_
 refine O.pure 1 [(0, 0)] [1, 2, 3, 4, 29] [p2_6, 0] (fr' := [(1, .slice p1_3.1 x1_3.1.length p1_3.2), (2, .int .i64 x1_3.2), (3, .pointer (some ⟨p2_6, 0, none⟩)), (4, .int .i64 x2_2.2), (29, .agg #[.slice p2_2.1 x2_2.1.f0.length p2_2.2])]) (bx' := [⟨p2_6, [.slice p2_2.1 x2_2.1.f0.length p2_2.2], 24⟩]) (by kernel_rfl) ?_
 refine O.e (some 30) (Ev.call0 (xs := [.tmp 29]) [0] (by kernel_rfl) (by kernel_rfl) (fun w hS => ckpt_Last.con K x2_2.1 p2_2  _ _ w hS hx3_1)) (by kernel_rfl) (fun p3_1 => ?_)
 refine O.pure 7 [] [1, 2, 3, 4, 5, 6, 7] [] (fr' := [(1, .slice p1_3.1 x1_3.1.length p1_3.2), (2, .int .i64 x1_3.2), (3, .pointer (some ⟨p2_6, 0, none⟩)), (4, .int .i64 x2_2.2), (5, .int .i64 x3_1.1), (6, .slice p3_1.1 x3_1.2.1.length p3_1.2), (7, .int .i64 x3_1.2.2)]) (bx' := [⟨p2_6, [.slice p2_2.1 x2_2.1.f0.length p2_2.2], 24⟩]) (by kernel_rfl) ?_
 refine O.nil (by kernel_rfl) ?_
 refine J.seq (by kernel_rfl) ?_
 obtain ⟨x4_1, hx4_1, H⟩ := bindE H
 refine J.region (by kernel_rfl) ?_
 refine O.pure 1 [(0, 0)] [1, 2, 4, 5, 6, 7, 35] [p2_6, 0] (fr' := [(1, .slice p1_3.1 x1_3.1.length p1_3.2), (2, .int .i64 x1_3.2), (4, .int .i64 x2_2.2), (5, .int .i64 x3_1.1), (6, .slice p3_1.1 x3_1.2.1.length p3_1.2), (7, .int .i64 x3_1.2.2), (35, .agg #[.slice p2_2.1 x2_2.1.f0.length p2_2.2])]) (bx' := [⟨p2_6, [.slice p2_2.1 x2_2.1.f0.length p2_2.2], 24⟩]) (by kernel_rfl) ?_
 refine O.e (some 36) (Ev.mono (fun w hS => hS.add (fun w' _ => Rd.nil (Kd.int .u8) w')) (Ev.call0 (xs := [.tmp 35, .const (.int .i64 8), .const (.slice none 0 0)]) [2, 0] (by kernel_rfl) (by kernel_rfl) (fun w hS => ckpt_Save.con K x2_2.1 8 ([] : List Int) p2_2 (none, 0)  _ _ w hS hx4_1))) (by kernel_rfl) (fun p4_1 => ?_)
 refine O.pure 5 [] [1, 2, 4, 5, 6, 7, 8, 9] [] (fr' := [(1, .slice p1_3.1 x1_3.1.length p1_3.2), (2, .int .i64 x1_3.2), (4, .int .i64 x2_2.2), (5, .int .i64 x3_1.1), (6, .slice p3_1.1 x3_1.2.1.length p3_1.2), (7, .int .i64 x3_1.2.2), (8, .slice p4_1.1 x4_1.1.length p4_1.2), (9, .int .i64 x4_1.2)]) (bx' := [⟨p2_6, [.slice p2_2.1 x2_2.1.f0.length p2_2.2], 24⟩]) (by kernel_rfl) ?_
 refine O.nil (by kernel_rfl) ?_
 refine J.seq (by kernel_rfl) ?_
 obtain ⟨x5_2, hx5_2, H⟩ := bindE H
 refine J.region (by kernel_rfl) ?_
 refine O.pure 2 [] [1, 2, 4, 5, 6, 7, 8, 9, 40, 41] [] (fr' := [(1, .slice p1_3.1 x1_3.1.length p1_3.2), (2, .int .i64 x1_3.2), (4, .int .i64 x2_2.2), (5, .int .i64 x3_1.1), (6, .slice p3_1.1 x3_1.2.1.length p3_1.2), (7, .int .i64 x3_1.2.2), (8, .slice p4_1.1 x4_1.1.length p4_1.2), (9, .int .i64 x4_1.2), (40, .agg #[.slice none 0 0]), (41, .slice p1_3.1 x1_3.1.length p1_3.2)]) (bx' := [⟨p2_6, [.slice p2_2.1 x2_2.1.f0.length p2_2.2], 24⟩]) (by kernel_rfl) ?_
 refine O.e (some 42) (Ev.call0 (xs := [.tmp 40, .tmp 41, .const (.int .i64 3)]) [4, 3] (by kernel_rfl) (by kernel_rfl) (fun w hS => ckpt_Do.con K (⟨([] : List S70)⟩ : S24) x1_3.1 3 (none, 0) p1_3  _ _ w hS hx5_2)) (by kernel_rfl) (fun p5_2 => ?_)
 refine O.pure 3 [] [1, 2, 4, 5, 6, 7, 8, 9, 43, 44] [] (fr' := [(1, .slice p1_3.1 x1_3.1.length p1_3.2), (2, .int .i64 x1_3.2), (4, .int .i64 x2_2.2), (5, .int .i64 x3_1.1), (6, .slice p3_1.1 x3_1.2.1.length p3_1.2), (7, .int .i64 x3_1.2.2), (8, .slice p4_1.1 x4_1.1.length p4_1.2), (9, .int .i64 x4_1.2), (43, .agg #[.slice p5_2.1 x5_2.1.f0.length p5_2.2]), (44, .int .i64 x5_2.2)]) (bx' := [⟨p2_6, [.slice p2_2.1 x2_2.1.f0.length p2_2.2], 24⟩]) (by kernel_rfl) ?_
 refine O.e (some 10) (Ev.alloc (t := 24) (z := .agg #[.slice none 0 0]) (by kernel_rfl) (by kernel_rfl)) (by kernel_rfl) (fun p5_6 => ?_)
 refine O.pure 2 [(0, 0)] [1, 2, 4, 5, 6, 7, 8, 9, 10] [p5_6, 0] (fr' := [(1, .slice p1_3.1 x1_3.1.length p1_3.2), (2, .int .i64 x1_3.2), (4, .int .i64 x2_2.2), (5, .int .i64 x3_1.1), (6, .slice p3_1.1 x3_1.2.1.length p3_1.2), (7, .int .i64 x3_1.2.2), (8, .slice p4_1.1 x4_1.1.length p4_1.2), (9, .int .i64 x4_1.2), (10, .pointer (some ⟨p5_6, 0, none⟩))]) (bx' := [⟨p5_6, [.slice p5_2.1 x5_2.1.f0.length p5_2.2], 24⟩, ⟨p2_6, [.slice p2_2.1 x2_2.1.f0.length p2_2.2], 24⟩]) (by kernel_rfl) ?_
 refine O.nil (by kernel_rfl) ?_
 refine J.seq (by kernel_rfl) ?_
 obtain ⟨x6_1, hx6_1, H⟩ := bindE H
 obtain ⟨x6_2, hx6_2, H⟩ := bindE H
 refine J.region (by kernel_rfl) ?_
 refine O.pure 1 [(0, 0)] [1, 2, 4, 5, 6, 7, 8, 9, 46] [p5_6, 0] (fr' := [(1, .slice p1_3.1 x1_3.1.length p1_3.2), (2, .int .i64 x1_3.2), (4, .int .i64 x2_2.2), (5, .int .i64 x3_1.1), (6, .slice p3_1.1 x3_1.2.1.length p3_1.2), (7, .int .i64 x3_1.2.2), (8, .slice p4_1.1 x4_1.1.length p4_1.2), (9, .int .i64 x4_1.2), (46, .agg #[.slice p5_2.1 x5_2.1.f0.length p5_2.2])]) (bx' := [⟨p5_6, [.slice p5_2.1 x5_2.1.f0.length p5_2.2], 24⟩, ⟨p2_6, [.slice p2_2.1 x2_2.1.f0.length p2_2.2], 24⟩]) (by kernel_rfl) ?_
 refine O.e (some 47) (Ev.mono (fun w hS => hS.add (fun w' _ => Rd.nil (Kd.int .i64) w')) (Ev.call0 (xs := [.tmp 46, .const (.slice none 0 0)]) [1, 0] (by kernel_rfl) (by kernel_rfl) (fun w hS => disk_Crash.con K x5_2.1 ([] : List Int) p5_2 (none, 0)  _ _ w hS hx6_1))) (by kernel_rfl) (fun p6_1 => ?_)
 refine O.e (some 48) (Ev.mono (fun w hS => hS.freezeH (h := p6_1) (xs := x6_1.f0)) (Ev.call0 (xs := [.tmp 47]) [0] (by kernel_rfl) (by kernel_rfl) (fun w hS => ckpt_Last.con K x6_1 p6_1  _ _ w hS hx6_2))) (by kernel_rfl) (fun p6_2 => ?_)
 refine O.pure 7 [] [1, 2, 4, 5, 6, 7, 8, 9, 14] [] (fr' := [(1, .slice p1_3.1 x1_3.1.length p1_3.2), (2, .int .i64 x1_3.2), (4, .int .i64 x2_2.2), (5, .int .i64 x3_1.1), (6, .slice p3_1.1 x3_1.2.1.length p3_1.2), (7, .int .i64 x3_1.2.2), (8, .slice p4_1.1 x4_1.1.length p4_1.2), (9, .int .i64 x4_1.2), (14, .int .i64 x6_2.2.2)]) (bx' := [⟨p5_6, [.slice p5_2.1 x5_2.1.f0.length p5_2.2], 24⟩, ⟨p2_6, [.slice p2_2.1 x2_2.1.f0.length p2_2.2], 24⟩]) (by kernel_rfl) ?_
 refine O.nil (by kernel_rfl) ?_
 refine J.seq (by kernel_rfl) ?_
 rcases condE H with ⟨hc1, H⟩ | ⟨hc1, H⟩
 ·rcases condE H with ⟨hc2, H⟩ | ⟨hc2, H⟩
  ·rcases condE H with ⟨hc3, H⟩ | ⟨hc3, H⟩
   ·obtain ⟨x7_13, hx7_13, H⟩ := bindE H
    obtain ⟨hx7_13a, hx7_13⟩ := idxE hx7_13
    rcases condE H with ⟨hc4, H⟩ | ⟨hc4, H⟩
    ·obtain ⟨x7_20, hx7_20, H⟩ := bindE H
     obtain ⟨hx7_20a, hx7_20⟩ := idxE hx7_20
     rcases condE H with ⟨hc5, H⟩ | ⟨hc5, H⟩
     ·rcases condE H with ⟨hc6, H⟩ | ⟨hc6, H⟩
      ·rcases condE H with ⟨hc7, H⟩ | ⟨hc7, H⟩
       ·rcases condE H with ⟨hc8, H⟩ | ⟨hc8, H⟩
        ·rcases condE H with ⟨hc9, H⟩ | ⟨hc9, H⟩
         ·rcases condE H with ⟨hc10, H⟩ | ⟨hc10, H⟩
          ·obtain ⟨x7_50, hx7_50, H⟩ := bindE H
           obtain ⟨hx7_50a, hx7_50⟩ := idxE hx7_50
           rcases condE H with ⟨hc11, H⟩ | ⟨hc11, H⟩
           ·obtain ⟨x7_57, hx7_57, H⟩ := bindE H
            obtain ⟨hx7_57a, hx7_57⟩ := idxE hx7_57
            rcases condE H with ⟨hc12, H⟩ | ⟨hc12, H⟩
            ·rcases condE H with ⟨hc13, H⟩ | ⟨hc13, H⟩
             ·obtain ⟨x7_67, hx7_67, H⟩ := bindE H
              refine J.region (by kernel_rfl) ?_
              refine O.pure 1 [] [1, 4, 5, 6, 7, 8, 9, 14, 52] [] (fr' := [(1, .slice p1_3.1 x1_3.1.length p1_3.2), (4, .int .i64 x2_2.2), (5, .int .i64 x3_1.1), (6, .slice p3_1.1 x3_1.2.1.length p3_1.2), (7, .int .i64 x3_1.2.2), (8, .slice p4_1.1 x4_1.1.length p4_1.2), (9, .int .i64 x4_1.2), (14, .int .i64 x6_2.2.2), (52, .int .i64 x1_3.2)]) (bx' := [⟨p5_6, [.slice p5_2.1 x5_2.1.f0.length p5_2.2], 24⟩, ⟨p2_6, [.slice p2_2.1 x2_2.1.f0.length p2_2.2], 24⟩]) (by kernel_rfl) ?_
              refine O.q (v := .bool true) (some 53) (Qu.eqv (u := .bool (x1_3.2 == 0)) (v := .bool true) (0, 0) [] (by kernel_rfl) (congrArg Value.bool hc1)) (by kernel_rfl) ?_
              refine O.pure 2 [] [1, 5, 6, 7, 8, 9, 14, 54, 55] [] (fr' := [(1, .slice p1_3.1 x1_3.1.length p1_3.2), (5, .int .i64 x3_1.1), (6, .slice p3_1.1 x3_1.2.1.length p3_1.2), (7, .int .i64 x3_1.2.2), (8, .slice p4_1.1 x4_1.1.length p4_1.2), (9, .int .i64 x4_1.2), (14, .int .i64 x6_2.2.2), (54, .bool true), (55, .int .i64 x2_2.2)]) (bx' := [⟨p5_6, [.slice p5_2.1 x5_2.1.f0.length p5_2.2], 24⟩, ⟨p2_6, [.slice p2_2.1 x2_2.1.f0.length p2_2.2], 24⟩]) (by kernel_rfl) ?_
              refine O.q (v := .bool true) (some 56) (Qu.eqv (u := .bool (x2_2.2 == 4)) (v := .bool true) (0, 0) [] (by kernel_rfl) (congrArg Value.bool hc2)) (by kernel_rfl) ?_
              refine O.pure 4 [] [1, 5, 6, 7, 8, 9, 14, 58, 60] [] (fr' := [(1, .slice p1_3.1 x1_3.1.length p1_3.2), (5, .int .i64 x3_1.1), (6, .slice p3_1.1 x3_1.2.1.length p3_1.2), (7, .int .i64 x3_1.2.2), (8, .slice p4_1.1 x4_1.1.length p4_1.2), (9, .int .i64 x4_1.2), (14, .int .i64 x6_2.2.2), (58, .bool true), (60, .int .i64 (x1_3.1.length : Int))]) (bx' := [⟨p5_6, [.slice p5_2.1 x5_2.1.f0.length p5_2.2], 24⟩, ⟨p2_6, [.slice p2_2.1 x2_2.1.f0.length p2_2.2], 24⟩]) (by kernel_rfl) ?_
              refine O.q (v := .bool true) (some 61) (Qu.eqv (u := .bool ((x1_3.1.length : Int) == 4)) (v := .bool true) (0, 0) [] (by kernel_rfl) (congrArg Value.bool hc3)) (by kernel_rfl) ?_
              refine O.pure 3 [] [1, 5, 6, 7, 8, 9, 14, 63, 64] [] (fr' := [(1, .slice p1_3.1 x1_3.1.length p1_3.2), (5, .int .i64 x3_1.1), (6, .slice p3_1.1 x3_1.2.1.length p3_1.2), (7, .int .i64 x3_1.2.2), (8, .slice p4_1.1 x4_1.1.length p4_1.2), (9, .int .i64 x4_1.2), (14, .int .i64 x6_2.2.2), (63, .bool true), (64, .slice p1_3.1 x1_3.1.length p1_3.2)]) (bx' := [⟨p5_6, [.slice p5_2.1 x5_2.1.f0.length p5_2.2], 24⟩, ⟨p2_6, [.slice p2_2.1 x2_2.1.f0.length p2_2.2], 24⟩]) (by kernel_rfl) ?_
              refine O.open (d := kd48) (h := p1_3) (i := 0) 7 rfl hx7_13 (op48 _) (fun p7_13 hp7_13A => ?_)
              refine O.q (v := .pointer (some ⟨p7_13.1, p7_13.2.1 + (0 : Int).toNat * 3, none⟩)) (some 65) (Qu.idx (t := 37) (x := .tmp 64) (y := .const (.int .i64 0)) (c := p1_3.2) (kk := .i64) (sz := 3) (by kernel_rfl) (by kernel_rfl) (by kernel_rfl) (by kernel_rfl) hx7_13a (idx_lt hx7_13) hp7_13A) (by kernel_rfl) ?_
              refine O.pure 2 [(2, 1)] [1, 5, 6, 7, 8, 9, 14, 63, 67] [p7_13.1, p7_13.2.1 + (0 : Int).toNat * 3 + 1] (fr' := [(1, .slice p1_3.1 x1_3.1.length p1_3.2), (5, .int .i64 x3_1.1), (6, .slice p3_1.1 x3_1.2.1.length p3_1.2), (7, .int .i64 x3_1.2.2), (8, .slice p4_1.1 x4_1.1.length p4_1.2), (9, .int .i64 x4_1.2), (14, .int .i64 x6_2.2.2), (63, .bool true), (67, .string x7_13.f1)]) (bx' := [⟨p5_6, [.slice p5_2.1 x5_2.1.f0.length p5_2.2], 24⟩, ⟨p2_6, [.slice p2_2.1 x2_2.1.f0.length p2_2.2], 24⟩]) (by kernel_rfl) ?_
              refine O.q (v := .bool true) (some 68) (Qu.eqv (u := .bool (x7_13.f1.toList == (⟨#[99, 55]⟩ : ByteArray).toList)) (v := .bool true) (0, 0) [] (by kernel_rfl) (congrArg Value.bool hc4)) (by kernel_rfl) ?_
              refine O.pure 3 [] [5, 6, 7, 8, 9, 14, 70, 71] [] (fr' := [(5, .int .i64 x3_1.1), (6, .slice p3_1.1 x3_1.2.1.length p3_1.2), (7, .int .i64 x3_1.2.2), (8, .slice p4_1.1 x4_1.1.length p4_1.2), (9, .int .i64 x4_1.2), (14, .int .i64 x6_2.2.2), (70, .bool true), (71, .slice p1_3.1 x1_3.1.length p1_3.2)]) (bx' := [⟨p5_6, [.slice p5_2.1 x5_2.1.f0.length p5_2.2], 24⟩, ⟨p2_6, [.slice p2_2.1 x2_2.1.f0.length p2_2.2], 24⟩]) (by kernel_rfl) ?_
              refine O.open (d := kd48) (h := p1_3) (i := 0) 8 rfl hx7_20 (op48 _) (fun p7_20 hp7_20A => ?_)
              refine O.q (v := .pointer (some ⟨p7_20.1, p7_20.2.1 + (0 : Int).toNat * 3, none⟩)) (some 72) (Qu.idx (t := 37) (x := .tmp 71) (y := .const (.int .i64 0)) (c := p1_3.2) (kk := .i64) (sz := 3) (by kernel_rfl) (by kernel_rfl) (by kernel_rfl) (by kernel_rfl) hx7_20a (idx_lt hx7_20) hp7_20A) (by kernel_rfl) ?_
              refine O.pure 3 [(2, 2)] [5, 6, 7, 8, 9, 14, 70, 75] [p7_20.1, p7_20.2.1 + (0 : Int).toNat * 3 + 2] (fr' := [(5, .int .i64 x3_1.1), (6, .slice p3_1.1 x3_1.2.1.length p3_1.2), (7, .int .i64 x3_1.2.2), (8, .slice p4_1.1 x4_1.1.length p4_1.2), (9, .int .i64 x4_1.2), (14, .int .i64 x6_2.2.2), (70, .bool true), (75, .int .i64 (x7_20.f2.length : Int))]) (bx' := [⟨p5_6, [.slice p5_2.1 x5_2.1.f0.length p5_2.2], 24⟩, ⟨p2_6, [.slice p2_2.1 x2_2.1.f0.length p2_2.2], 24⟩]) (by kernel_rfl) ?_
              refine O.q (v := .bool true) (some 76) (Qu.eqv (u := .bool ((x7_20.f2.length : Int) == 11)) (v := .bool true) (0, 0) [] (by kernel_rfl) (congrArg Value.bool hc5)) (by kernel_rfl) ?_
              refine O.pure 3 [] [6, 7, 8, 9, 14, 78, 79] [] (fr' := [(6, .slice p3_1.1 x3_1.2.1.length p3_1.2), (7, .int .i64 x3_1.2.2), (8, .slice p4_1.1 x4_1.1.length p4_1.2), (9, .int .i64 x4_1.2), (14, .int .i64 x6_2.2.2), (78, .bool true), (79, .int .i64 x3_1.1)]) (bx' := [⟨p5_6, [.slice p5_2.1 x5_2.1.f0.length p5_2.2], 24⟩, ⟨p2_6, [.slice p2_2.1 x2_2.1.f0.length p2_2.2], 24⟩]) (by kernel_rfl) ?_
              refine O.q (v := .bool true) (some 80) (Qu.eqv (u := .bool (x3_1.1 == 7)) (v := .bool true) (0, 0) [] (by kernel_rfl) (congrArg Value.bool hc6)) (by kernel_rfl) ?_
              refine O.pure 3 [] [7, 8, 9, 14, 82, 83] [] (fr' := [(7, .int .i64 x3_1.2.2), (8, .slice p4_1.1 x4_1.1.length p4_1.2), (9, .int .i64 x4_1.2), (14, .int .i64 x6_2.2.2), (82, .bool true), (83, .slice p3_1.1 x3_1.2.1.length p3_1.2)]) (bx' := [⟨p5_6, [.slice p5_2.1 x5_2.1.f0.length p5_2.2], 24⟩, ⟨p2_6, [.slice p2_2.1 x2_2.1.f0.length p2_2.2], 24⟩]) (by kernel_rfl) ?_
              refine O.q (v := .string (strOfNums x3_1.2.1)) (some 84) (Qu.str (t := 27) (u := 9) (x := .tmp 83) (h := p3_1) (xs := x3_1.2.1) 7 (by kernel_rfl) (by kernel_rfl) (by kernel_rfl) (by kernel_rfl) rfl) (by kernel_rfl) ?_
              refine O.q (v := .bool true) (some 85) (Qu.eqv (u := .bool ((strOfNums x3_1.2.1).toList == (⟨#[104, 97, 121]⟩ : ByteArray).toList)) (v := .bool true) (0, 0) [] (by kernel_rfl) (congrArg Value.bool hc7)) (by kernel_rfl) ?_
              refine O.pure 3 [] [8, 9, 14, 87, 88] [] (fr' := [(8, .slice p4_1.1 x4_1.1.length p4_1.2), (9, .int .i64 x4_1.2), (14, .int .i64 x6_2.2.2), (87, .bool true), (88, .int .i64 x3_1.2.2)]) (bx' := [⟨p5_6, [.slice p5_2.1 x5_2.1.f0.length p5_2.2], 24⟩, ⟨p2_6, [.slice p2_2.1 x2_2.1.f0.length p2_2.2], 24⟩]) (by kernel_rfl) ?_
              refine O.q (v := .bool true) (some 89) (Qu.eqv (u := .bool (x3_1.2.2 == 0)) (v := .bool true) (0, 0) [] (by kernel_rfl) (congrArg Value.bool hc8)) (by kernel_rfl) ?_
              refine O.pure 3 [] [8, 14, 91, 92] [] (fr' := [(8, .slice p4_1.1 x4_1.1.length p4_1.2), (14, .int .i64 x6_2.2.2), (91, .bool true), (92, .int .i64 x4_1.2)]) (bx' := [⟨p5_6, [.slice p5_2.1 x5_2.1.f0.length p5_2.2], 24⟩, ⟨p2_6, [.slice p2_2.1 x2_2.1.f0.length p2_2.2], 24⟩]) (by kernel_rfl) ?_
              refine O.q (v := .bool true) (some 93) (Qu.eqv (u := .bool (x4_1.2 == 0)) (v := .bool true) (0, 0) [] (by kernel_rfl) (congrArg Value.bool hc9)) (by kernel_rfl) ?_
              refine O.pure 4 [] [8, 14, 95, 97] [] (fr' := [(8, .slice p4_1.1 x4_1.1.length p4_1.2), (14, .int .i64 x6_2.2.2), (95, .bool true), (97, .int .i64 (x4_1.1.length : Int))]) (bx' := [⟨p5_6, [.slice p5_2.1 x5_2.1.f0.length p5_2.2], 24⟩, ⟨p2_6, [.slice p2_2.1 x2_2.1.f0.length p2_2.2], 24⟩]) (by kernel_rfl) ?_
              refine O.q (v := .bool true) (some 98) (Qu.eqv (u := .bool ((x4_1.1.length : Int) == 5)) (v := .bool true) (0, 0) [] (by kernel_rfl) (congrArg Value.bool hc10)) (by kernel_rfl) ?_
              refine O.pure 3 [] [8, 14, 100, 101] [] (fr' := [(8, .slice p4_1.1 x4_1.1.length p4_1.2), (14, .int .i64 x6_2.2.2), (100, .bool true), (101, .slice p4_1.1 x4_1.1.length p4_1.2)]) (bx' := [⟨p5_6, [.slice p5_2.1 x5_2.1.f0.length p5_2.2], 24⟩, ⟨p2_6, [.slice p2_2.1 x2_2.1.f0.length p2_2.2], 24⟩]) (by kernel_rfl) ?_
              refine O.mono (fun w hS => hS.freezeH (h := p4_1) (xs := x4_1.1)) ?_
              refine O.open (d := kd48) (h := p4_1) (i := 4) 0 rfl hx7_50 (op48 _) (fun p7_50 hp7_50A => ?_)
              refine O.q (v := .pointer (some ⟨p7_50.1, p7_50.2.1 + (4 : Int).toNat * 3, none⟩)) (some 102) (Qu.idx (t := 37) (x := .tmp 101) (y := .const (.int .i64 4)) (c := p4_1.2) (kk := .i64) (sz := 3) (by kernel_rfl) (by kernel_rfl) (by kernel_rfl) (by kernel_rfl) hx7_50a (idx_lt hx7_50) hp7_50A) (by kernel_rfl) ?_
              refine O.pure 2 [(2, 0)] [8, 14, 100, 104] [p7_50.1, p7_50.2.1 + (4 : Int).toNat * 3] (fr' := [(8, .slice p4_1.1 x4_1.1.length p4_1.2), (14, .int .i64 x6_2.2.2), (100, .bool true), (104, .int .i64 x7_50.f0)]) (bx' := [⟨p5_6, [.slice p5_2.1 x5_2.1.f0.length p5_2.2], 24⟩, ⟨p2_6, [.slice p2_2.1 x2_2.1.f0.length p2_2.2], 24⟩]) (by kernel_rfl) ?_
              refine O.q (v := .bool true) (some 105) (Qu.eqv (u := .bool (x7_50.f0 == 1)) (v := .bool true) (0, 0) [] (by kernel_rfl) (congrArg Value.bool hc11)) (by kernel_rfl) ?_
              refine O.pure 3 [] [14, 107, 108] [] (fr' := [(14, .int .i64 x6_2.2.2), (107, .bool true), (108, .slice p4_1.1 x4_1.1.length p4_1.2)]) (bx' := [⟨p5_6, [.slice p5_2.1 x5_2.1.f0.length p5_2.2], 24⟩, ⟨p2_6, [.slice p2_2.1 x2_2.1.f0.length p2_2.2], 24⟩]) (by kernel_rfl) ?_
              refine O.open (d := kd48) (h := p4_1) (i := 4) 1 rfl hx7_57 (op48 _) (fun p7_57 hp7_57A => ?_)
              refine O.q (v := .pointer (some ⟨p7_57.1, p7_57.2.1 + (4 : Int).toNat * 3, none⟩)) (some 109) (Qu.idx (t := 37) (x := .tmp 108) (y := .const (.int .i64 4)) (c := p4_1.2) (kk := .i64) (sz := 3) (by kernel_rfl) (by kernel_rfl) (by kernel_rfl) (by kernel_rfl) hx7_57a (idx_lt hx7_57) hp7_57A) (by kernel_rfl) ?_
              refine O.pure 2 [(2, 1)] [14, 107, 111] [p7_57.1, p7_57.2.1 + (4 : Int).toNat * 3 + 1] (fr' := [(14, .int .i64 x6_2.2.2), (107, .bool true), (111, .string x7_57.f1)]) (bx' := [⟨p5_6, [.slice p5_2.1 x5_2.1.f0.length p5_2.2], 24⟩, ⟨p2_6, [.slice p2_2.1 x2_2.1.f0.length p2_2.2], 24⟩]) (by kernel_rfl) ?_
              refine O.q (v := .bool true) (some 112) (Qu.eqv (u := .bool (x7_57.f1.toList == (⟨#[99, 55]⟩ : ByteArray).toList)) (v := .bool true) (0, 0) [] (by kernel_rfl) (congrArg Value.bool hc12)) (by kernel_rfl) ?_
              refine O.pure 3 [] [114, 115] [] (fr' := [(114, .bool true), (115, .int .i64 x6_2.2.2)]) (bx' := [⟨p5_6, [.slice p5_2.1 x5_2.1.f0.length p5_2.2], 24⟩, ⟨p2_6, [.slice p2_2.1 x2_2.1.f0.length p2_2.2], 24⟩]) (by kernel_rfl) ?_
              refine O.q (v := .bool true) (some 116) (Qu.eqv (u := .bool (x6_2.2.2 == 4)) (v := .bool true) (0, 0) [] (by kernel_rfl) (congrArg Value.bool hc13)) (by kernel_rfl) ?_
              refine O.pure 2 [] [118] [] (fr' := [(118, .bool true)]) (bx' := [⟨p5_6, [.slice p5_2.1 x5_2.1.f0.length p5_2.2], 24⟩, ⟨p2_6, [.slice p2_2.1 x2_2.1.f0.length p2_2.2], 24⟩]) (by kernel_rfl) ?_
              refine O.e (some 119) (Ev.call0 (xs := [.const (.int .i64 12)]) [] (by kernel_rfl) (by kernel_rfl) (fun w hS => ckpt_File.con K 12  _ _ w hS hx7_67)) (by kernel_rfl) (fun _ => ?_)
              refine O.pure 3 [] [0] [] (fr' := [(0, .bool (x7_67.toList == (⟨#[99, 49, 50]⟩ : ByteArray).toList))]) (bx' := [⟨p5_6, [.slice p5_2.1 x5_2.1.f0.length p5_2.2], 24⟩, ⟨p2_6, [.slice p2_2.1 x2_2.1.f0.length p2_2.2], 24⟩]) (by kernel_rfl) ?_
              refine O.nil (by kernel_rfl) ?_
              obtain rfl := Option.some.inj H
              exact J.doneS [] [] [] [] [] () (vs := [.bool (x7_67.toList == (⟨#[99, 49, 50]⟩ : ByteArray).toList)]) (by kernel_rfl) (by kernel_rfl) (by kernel_rfl) (by kernel_rfl) (by kernel_rfl) (by decide)
             ·obtain rfl := Option.some.inj H
              cases hr
            ·obtain rfl := Option.some.inj H
             cases hr
           ·obtain rfl := Option.some.inj H
            cases hr
          ·obtain rfl := Option.some.inj H
           cases hr
         ·obtain rfl := Option.some.inj H
          cases hr
        ·obtain rfl := Option.some.inj H
         cases hr
       ·obtain rfl := Option.some.inj H
        cases hr
      ·obtain rfl := Option.some.inj H
       cases hr
     ·obtain rfl := Option.some.inj H
      cases hr
    ·obtain rfl := Option.some.inj H
     cases hr
   ·obtain rfl := Option.some.inj H
    cases hr
  ·obtain rfl := Option.some.inj H
   cases hr
 ·obtain rfl := Option.some.inj H
  cases hr
/-! ### haywain/haywainlaw14.kept: function 26 -/
def haywainlaw14_kept.l1 (K : Nat) (a0 : List (List Int)) : Nat → (Int × Int × (List S70)) → Option (S24 × Int × Bool)
  | 0, _ => none
  | k + 1, s1 => cond (decide (s1.2.1 < (a0.length : Int))) (cond (decide (s1.2.1 < 10)) ((idxO a0 s1.2.1).bind fun x6_2 => cond (decide ((x6_2.length : Int) > 500)) (haywainlaw14_kept.l1 K a0 k (s1.1, (IntKind.wrap .i64 (s1.2.1 + 1)), s1.2.2)) ((idxO a0 s1.2.1).bind fun x8_5 => (appO 1 ([] : List Int) x8_5).bind fun y8_7 => (ckpt_Save.f K (⟨s1.2.2⟩ : S24) (IntKind.wrap .i64 (s1.1 + 1)) (([] : List Int) ++ x8_5)).bind fun x8_8 => cond (x8_8.2 != 0) (some (((⟨s1.2.2⟩ : S24), (IntKind.wrap .i64 (s1.1 + 1)), false))) ((ckpt_Do.f K (⟨s1.2.2⟩ : S24) x8_8.1 (x8_8.1.length : Int)).bind fun x11_4 => cond (x11_4.2 != (x8_8.1.length : Int)) (some (((⟨s1.2.2⟩ : S24), (IntKind.wrap .i64 (s1.1 + 1)), false))) (haywainlaw14_kept.l1 K a0 k ((IntKind.wrap .i64 (s1.1 + 1)), (IntKind.wrap .i64 (s1.2.1 + 1)), x11_4.1.f0))))) (some (((⟨s1.2.2⟩ : S24), s1.1, true)))) (some (((⟨s1.2.2⟩ : S24), s1.1, true)))
def haywainlaw14_kept.f (K : Nat) (a0 : List (List Int)) : Option (S24 × Int × Bool) := haywainlaw14_kept.l1 K a0 K (0, 0, ([] : List S70))
set_option maxRecDepth 100000 in
set_option maxHeartbeats 1000000 in
theorem haywainlaw14_kept.con (K : Nat) (a0 : List (List Int)) (h0 : Hd) (r : (S24 × Int × Bool)) (X : Nat → Nat → Prop) (w : World) (hS : St X w [] [] [] [] [Rd (Kd.slice (Kd.int .u8)) h0.1 h0.2 a0] w) (H : haywainlaw14_kept.f K a0 = some r) :
    Cn Try.prog 26 [.slice h0.1 a0.length h0.2] X w [] (fun i : Hd => .tuple #[.agg #[.slice i.1 r.1.f0.length i.2], .int .i64 r.2.1, .bool r.2.2]) (fun i => []) (fun i => []) (fun i => [Rd kd70 i.1 i.2 r.1.f0]) := by
 refine Cn.of Try.func26 (by kernel_rfl) hS ?_
 unfold haywainlaw14_kept.f at H
 refine J.seq (by kernel_rfl) ?_
 refine J.region (by kernel_rfl) ?_
 refine O.e (some 2) (Ev.alloc (t := 24) (z := .agg #[.slice none 0 0]) (by kernel_rfl) (by kernel_rfl)) (by kernel_rfl) (fun p0_0 => ?_)
 refine O.pure 2 [] [0, 2] [] (fr' := [(0, .slice h0.1 a0.length h0.2), (2, .pointer (some ⟨p0_0, 0, none⟩))]) (bx' := [⟨p0_0, [.slice none 0 0], 24⟩]) (by kernel_rfl) ?_
 refine O.nil (by kernel_rfl) ?_
 refine J.seq (by kernel_rfl) ?_
 refine J.region (by kernel_rfl) ?_
 refine O.e (some 5) (Ev.alloc (t := 24) (z := .agg #[.slice none 0 0]) (by kernel_rfl) (by kernel_rfl)) (by kernel_rfl) (fun p1_0 => ?_)
 refine O.nil (by kernel_rfl) ?_
 refine J.seq (by kernel_rfl) ?_
 refine J.region (by kernel_rfl) ?_
 refine O.pure 1 [] [0, 2, 5, 6] [] (fr' := [(0, .slice h0.1 a0.length h0.2), (2, .pointer (some ⟨p0_0, 0, none⟩)), (5, .pointer (some ⟨p1_0, 0, none⟩)), (6, .int .i64 0)]) (bx' := [⟨p1_0, [.slice none 0 0], 24⟩, ⟨p0_0, [.slice none 0 0], 24⟩]) (by kernel_rfl) ?_
 refine O.nil (by kernel_rfl) ?_
 refine J.seq (by kernel_rfl) ?_
 refine J.seq (by kernel_rfl) ?_
 refine J.region (by kernel_rfl) ?_
 refine O.pure 1 [] [0, 2, 5, 6, 7] [] (fr' := [(0, .slice h0.1 a0.length h0.2), (2, .pointer (some ⟨p0_0, 0, none⟩)), (5, .pointer (some ⟨p1_0, 0, none⟩)), (6, .int .i64 0), (7, .int .i64 0)]) (bx' := [⟨p1_0, [.slice none 0 0], 24⟩, ⟨p0_0, [.slice none 0 0], 24⟩]) (by kernel_rfl) ?_
 refine O.nil (by kernel_rfl) ?_
 refine J.block (id := 0) (by kernel_rfl) ?_
 refine J.loopI (σ := Int × Int × (List S70)) (γ := Hd) (f := fun m_ s_ => haywainlaw14_kept.l1 K a0 m_ s_) (fun s1 g1 => [(0, .slice h0.1 a0.length h0.2), (2, .pointer (some ⟨p0_0, 0, none⟩)), (5, .pointer (some ⟨p1_0, 0, none⟩)), (6, .int .i64 s1.1), (7, .int .i64 s1.2.1)]) (fun s1 g1 => St X w [] [⟨p1_0, [.slice g1.1 s1.2.2.length g1.2], 24⟩, ⟨p0_0, [.slice none 0 0], 24⟩] [] [] [Rd kd70 g1.1 g1.2 s1.2.2, Rd (Kd.slice (Kd.int .u8)) h0.1 h0.2 a0]) K (0, 0, ([] : List S70)) (none, 0) (by kernel_rfl) H (fun _ => rfl) (fun m_ s1 H ih1 g1 => ?_) (fun h_ => ?_)
 ·unfold haywainlaw14_kept.l1 at H
  refine J.seq (by kernel_rfl) ?_
  refine J.seq (by kernel_rfl) ?_
  rcases condE H with ⟨hc11, H⟩ | ⟨hc11, H⟩
  ·refine J.region (by kernel_rfl) ?_
   refine O.pure 3 [] [0, 2, 5, 6, 7, 12, 14] [] (fr' := [(0, .slice h0.1 a0.length h0.2), (2, .pointer (some ⟨p0_0, 0, none⟩)), (5, .pointer (some ⟨p1_0, 0, none⟩)), (6, .int .i64 s1.1), (7, .int .i64 s1.2.1), (12, .int .i64 s1.2.1), (14, .int .i64 (a0.length : Int))]) (bx' := [⟨p1_0, [.slice g1.1 s1.2.2.length g1.2], 24⟩, ⟨p0_0, [.slice none 0 0], 24⟩]) (by kernel_rfl) ?_
   refine O.q (v := .bool true) (some 15) (Qu.eqv (u := .bool (decide (s1.2.1 < (a0.length : Int)))) (v := .bool true) (0, 0) [] (by kernel_rfl) (congrArg Value.bool hc11)) (by kernel_rfl) ?_
   refine O.pure 4 [] [0, 2, 5, 6, 7, 17, 18, 19] [] (fr' := [(0, .slice h0.1 a0.length h0.2), (2, .pointer (some ⟨p0_0, 0, none⟩)), (5, .pointer (some ⟨p1_0, 0, none⟩)), (6, .int .i64 s1.1), (7, .int .i64 s1.2.1), (17, .int .i64 s1.2.1), (18, .bool (decide (s1.2.1 < 10))), (19, .bool (decide (s1.2.1 < 10)))]) (bx' := [⟨p1_0, [.slice g1.1 s1.2.2.length g1.2], 24⟩, ⟨p0_0, [.slice none 0 0], 24⟩]) (by kernel_rfl) ?_
   refine O.nil (by kernel_rfl) ?_
   rcases condE H with ⟨hc12, H⟩ | ⟨hc12, H⟩
   ·refine J.condT (x := .tmp 19) (t := (decide (s1.2.1 < 10))) (by kernel_rfl) (by kernel_rfl) hc12 ?_
    refine J.skip (by kernel_rfl) ?_
    refine J.seq (by kernel_rfl) ?_
    refine J.block (id := 1) (by kernel_rfl) ?_
    refine J.seq (by kernel_rfl) ?_
    refine J.seq (by kernel_rfl) ?_
    obtain ⟨x6_2, hx6_2, H⟩ := bindE H
    obtain ⟨hx6_2a, hx6_2⟩ := idxE hx6_2
    refine J.region (by kernel_rfl) ?_
    refine O.pure 2 [] [0, 2, 5, 6, 7, 17, 18, 22, 23] [] (fr' := [(0, .slice h0.1 a0.length h0.2), (2, .pointer (some ⟨p0_0, 0, none⟩)), (5, .pointer (some ⟨p1_0, 0, none⟩)), (6, .int .i64 s1.1), (7, .int .i64 s1.2.1), (17, .int .i64 s1.2.1), (18, .bool (decide (s1.2.1 < 10))), (22, .slice h0.1 a0.length h0.2), (23, .int .i64 s1.2.1)]) (bx' := [⟨p1_0, [.slice g1.1 s1.2.2.length g1.2], 24⟩, ⟨p0_0, [.slice none 0 0], 24⟩]) (by kernel_rfl) ?_
    refine O.open (d := (Kd.slice (Kd.int .u8))) (h := h0) (i := s1.2.1) 1 rfl hx6_2 (Lay.slice _ _) (fun p6_2 hp6_2A => ?_)
    refine O.q (v := .pointer (some ⟨p6_2.1, p6_2.2.1 + s1.2.1.toNat * 1, none⟩)) (some 24) (Qu.idx (t := 58) (x := .tmp 22) (y := .tmp 23) (c := h0.2) (kk := .i64) (sz := 1) (by kernel_rfl) (by kernel_rfl) (by kernel_rfl) (by kernel_rfl) hx6_2a (idx_lt hx6_2) hp6_2A) (by kernel_rfl) ?_
    refine O.pure 3 [(2, 0)] [0, 2, 5, 6, 7, 17, 18, 27] [p6_2.1, p6_2.2.1 + s1.2.1.toNat * 1] (fr' := [(0, .slice h0.1 a0.length h0.2), (2, .pointer (some ⟨p0_0, 0, none⟩)), (5, .pointer (some ⟨p1_0, 0, none⟩)), (6, .int .i64 s1.1), (7, .int .i64 s1.2.1), (17, .int .i64 s1.2.1), (18, .bool (decide (s1.2.1 < 10))), (27, .bool (decide ((x6_2.length : Int) > 500)))]) (bx' := [⟨p1_0, [.slice g1.1 s1.2.2.length g1.2], 24⟩, ⟨p0_0, [.slice none 0 0], 24⟩]) (by kernel_rfl) ?_
    refine O.nil (by kernel_rfl) ?_
    rcases condE H with ⟨hc13, H⟩ | ⟨hc13, H⟩
    ·refine J.condT (x := .tmp 27) (t := (decide ((x6_2.length : Int) > 500))) (by kernel_rfl) (by kernel_rfl) hc13 ?_
     refine J.exit (id := 1) (by kernel_rfl) rfl ?_
     refine J.region (by kernel_rfl) ?_
     refine O.pure 3 [] [0, 2, 5, 6, 7, 17, 18] [] (fr' := [(0, .slice h0.1 a0.length h0.2), (2, .pointer (some ⟨p0_0, 0, none⟩)), (5, .pointer (some ⟨p1_0, 0, none⟩)), (6, .int .i64 s1.1), (7, .int .i64 (IntKind.wrap .i64 (s1.2.1 + 1))), (17, .int .i64 s1.2.1), (18, .bool (decide (s1.2.1 < 10)))]) (bx' := [⟨p1_0, [.slice g1.1 s1.2.2.length g1.2], 24⟩, ⟨p0_0, [.slice none 0 0], 24⟩]) (by kernel_rfl) ?_
     refine O.nil (by kernel_rfl) ?_
     exact J.conv2 [0, 2, 5, 6, 7] [1, 2] [0, 1] [] (by kernel_rfl) (by kernel_rfl) (by kernel_rfl) (by kernel_rfl) (by decide) (ih1 (s1.1, (IntKind.wrap .i64 (s1.2.1 + 1)), s1.2.2) g1 H)
    ·refine J.condF (x := .tmp 27) (t := (decide ((x6_2.length : Int) > 500))) (by kernel_rfl) (by kernel_rfl) hc13 ?_
     refine J.skip (by kernel_rfl) ?_
     refine J.seq (by kernel_rfl) ?_
     refine J.region (by kernel_rfl) ?_
     refine O.pure 3 [] [0, 2, 5, 6, 7, 17, 18] [] (fr' := [(0, .slice h0.1 a0.length h0.2), (2, .pointer (some ⟨p0_0, 0, none⟩)), (5, .pointer (some ⟨p1_0, 0, none⟩)), (6, .int .i64 (IntKind.wrap .i64 (s1.1 + 1))), (7, .int .i64 s1.2.1), (17, .int .i64 s1.2.1), (18, .bool (decide (s1.2.1 < 10)))]) (bx' := [⟨p1_0, [.slice g1.1 s1.2.2.length g1.2], 24⟩, ⟨p0_0, [.slice none 0 0], 24⟩]) (by kernel_rfl) ?_
     refine O.nil (by kernel_rfl) ?_
     refine J.seq (by kernel_rfl) ?_
     obtain ⟨x8_5, hx8_5, H⟩ := bindE H
     obtain ⟨hx8_5a, hx8_5⟩ := idxE hx8_5
     obtain ⟨y8_7, hy8_7, H⟩ := bindE H
     have hy8_7a := (appE hy8_7).1
     obtain ⟨x8_8, hx8_8, H⟩ := bindE H
     refine J.open (d := (Kd.slice (Kd.int .u8))) (h := h0) (i := s1.2.1) 2 rfl hx8_5 (Lay.slice _ _) (fun p8_5 hp8_5A => ?_)
     refine J.drawS (by kernel_rfl) [(0, some 31, .agg #[.slice g1.1 s1.2.2.length g1.2]), (1, some 32, .int .i64 (IntKind.wrap .i64 (s1.1 + 1))), (3, some 34, .slice h0.1 a0.length h0.2), (4, some 35, .int .i64 s1.2.1), (6, some 37, .slice p8_5.2.2.1 x8_5.length p8_5.2.2.2), (5, some 36, .pointer (some ⟨p8_5.1, p8_5.2.1 + s1.2.1.toNat * 1, none⟩))] ([0, 1, 3, 4, 6] ++ [5]) (by kernel_rfl) ?_
     refine D.mid (cs := [2]) [0, 1, 3, 4, 6] [5] [(0, 0), (2, 0)] [p1_0, 0, p8_5.1, p8_5.2.1 + s1.2.1.toNat * 1] (by kernel_rfl) (by kernel_rfl) (⟨QuAt.mk (v := .pointer (some ⟨p8_5.1, p8_5.2.1 + s1.2.1.toNat * 1, none⟩)) (some 36) (by kernel_rfl) (by kernel_rfl) (Qu.idx (t := 58) (x := .tmp 34) (y := .tmp 35) (c := h0.2) (kk := .i64) (sz := 1) (by kernel_rfl) (by kernel_rfl) (by kernel_rfl) (by kernel_rfl) hx8_5a (idx_lt hx8_5) hp8_5A), trivial⟩) (by kernel_rfl) ⟨?_, trivial⟩
     refine EvStep.mk (some 33) (new := fun p8_2 => []) ([0, 1, 3, 4, 6] ++ [5]) (by kernel_rfl) (Ev.lit (t := 27) (len := 0) (parts := #[]) (ps := []) (cs := []) (e := 5) (Kd.int .u8) ([] : List Int) (by kernel_rfl) (by kernel_rfl) (by kernel_rfl) (by kernel_rfl) (by kernel_rfl) (by decide) (fun w' hφ => (Els.nil _ _ _))) (fun p8_2 => by kernel_rfl) (fun p8_2 => ?_)
     refine D.mid (cs := [7]) [0, 1, 3, 4, 6] [5] [(0, 0), (2, 0)] [p1_0, 0, p8_5.1, p8_5.2.1 + s1.2.1.toNat * 1] (by kernel_rfl) (by kernel_rfl) (⟨QuAt.mk (v := .pointer (some ⟨p8_5.1, p8_5.2.1 + s1.2.1.toNat * 1, none⟩)) (some 36) (by kernel_rfl) (by kernel_rfl) (Qu.idx (t := 58) (x := .tmp 34) (y := .tmp 35) (c := h0.2) (kk := .i64) (sz := 1) (by kernel_rfl) (by kernel_rfl) (by kernel_rfl) (by kernel_rfl) hx8_5a (idx_lt hx8_5) hp8_5A), trivial⟩) (by kernel_rfl) ⟨?_, trivial⟩
     refine EvStep.mk (some 38) (new := fun p8_7 => []) ([0, 1, 3, 4] ++ [5]) (by kernel_rfl) (Ev.appSl (d := (Kd.int .u8)) (ys := x8_5) (A := p8_5.2.2.1) (c := p8_5.2.2.2) (x := .tmp 33) (y := .tmp 37) (t := 27) (bytes := 1) 0 (by kernel_rfl) (by kernel_rfl) (by kernel_rfl) rfl (by kernel_rfl) (by decide) hy8_7a) (fun p8_7 => by kernel_rfl) (fun p8_7 => ?_)
     refine D.mid (cs := [8]) [0, 1, 3, 4] [5] [(0, 0)] [p1_0, 0] (by kernel_rfl) (by kernel_rfl) (⟨QuAt.mk (v := .pointer (some ⟨p8_5.1, p8_5.2.1 + s1.2.1.toNat * 1, none⟩)) (some 36) (by kernel_rfl) (by kernel_rfl) (Qu.idx (t := 58) (x := .tmp 34) (y := .tmp 35) (c := h0.2) (kk := .i64) (sz := 1) (by kernel_rfl) (by kernel_rfl) (by kernel_rfl) (by kernel_rfl) hx8_5a (idx_lt hx8_5) hp8_5A), trivial⟩) (by kernel_rfl) ⟨?_, trivial⟩
     refine EvStep.mk (some 39) (new := fun p8_8 => [(9, some 30, .tuple #[.slice p8_8.1 x8_8.1.length p8_8.2, .int .i64 x8_8.2]), (10, some 40, .slice p8_8.1 x8_8.1.length p8_8.2), (11, some 41, .int .i64 x8_8.2), (12, some 8, .slice p8_8.1 x8_8.1.length p8_8.2), (13, some 9, .int .i64 x8_8.2)]) ([3, 4, 9, 10, 11, 12, 13] ++ [5]) (by kernel_rfl) (Ev.mono (fun w hS => hS.freezeH (h := p8_7) (xs := (([] : List Int) ++ x8_5))) (Ev.call0 (xs := [.tmp 31, .tmp 32, .tmp 38]) [3, 0] (by kernel_rfl) (by kernel_rfl) (fun w hS => ckpt_Save.con K (⟨s1.2.2⟩ : S24) (IntKind.wrap .i64 (s1.1 + 1)) (([] : List Int) ++ x8_5) g1 p8_7  _ _ w hS hx8_8))) (fun p8_8 => by kernel_rfl) (fun p8_8 => ?_)
     refine D.fin (fr' := [(0, .slice h0.1 a0.length h0.2), (2, .pointer (some ⟨p0_0, 0, none⟩)), (5, .pointer (some ⟨p1_0, 0, none⟩)), (6, .int .i64 (IntKind.wrap .i64 (s1.1 + 1))), (7, .int .i64 s1.2.1), (8, .slice p8_8.1 x8_8.1.length p8_8.2), (9, .int .i64 x8_8.2), (17, .int .i64 s1.2.1), (18, .bool (decide (s1.2.1 < 10)))]) [3, 4, 9, 10, 11, 12, 13] [5] [] [] [0, 2, 5, 6, 7, 8, 9, 17, 18] (by kernel_rfl) (by kernel_rfl) (⟨QuAt.mk (v := .pointer (some ⟨p8_5.1, p8_5.2.1 + s1.2.1.toNat * 1, none⟩)) (some 36) (by kernel_rfl) (by kernel_rfl) (Qu.idx (t := 58) (x := .tmp 34) (y := .tmp 35) (c := h0.2) (kk := .i64) (sz := 1) (by kernel_rfl) (by kernel_rfl) (by kernel_rfl) (by kernel_rfl) hx8_5a (idx_lt hx8_5) hp8_5A), trivial⟩) (by kernel_rfl) ?_
     refine J.seq (by kernel_rfl) ?_
     refine J.seq (by kernel_rfl) ?_
     refine J.region (by kernel_rfl) ?_
     refine O.pure 2 [] [0, 2, 5, 6, 7, 8, 17, 18, 43] [] (fr' := [(0, .slice h0.1 a0.length h0.2), (2, .pointer (some ⟨p0_0, 0, none⟩)), (5, .pointer (some ⟨p1_0, 0, none⟩)), (6, .int .i64 (IntKind.wrap .i64 (s1.1 + 1))), (7, .int .i64 s1.2.1), (8, .slice p8_8.1 x8_8.1.length p8_8.2), (17, .int .i64 s1.2.1), (18, .bool (decide (s1.2.1 < 10))), (43, .bool (x8_8.2 != 0))]) (bx' := [⟨p1_0, [.slice g1.1 s1.2.2.length g1.2], 24⟩, ⟨p0_0, [.slice none 0 0], 24⟩]) (by kernel_rfl) ?_
     refine O.nil (by kernel_rfl) ?_
     rcases condE H with ⟨hc14, H⟩ | ⟨hc14, H⟩
     ·refine J.condT (x := .tmp 43) (t := (x8_8.2 != 0)) (by kernel_rfl) (by kernel_rfl) hc14 ?_
      refine J.seq (by kernel_rfl) ?_
      refine J.region (by kernel_rfl) ?_
      refine O.pure 5 [(0, 0), (1, 0)] [2, 3, 4] [p1_0, 0, p0_0, 0] (fr' := [(2, .pointer (some ⟨p0_0, 0, none⟩)), (3, .int .i64 (IntKind.wrap .i64 (s1.1 + 1))), (4, .bool false)]) (bx' := [⟨p1_0, [.slice g1.1 s1.2.2.length g1.2], 24⟩, ⟨p0_0, [.slice g1.1 s1.2.2.length g1.2], 24⟩]) (by kernel_rfl) ?_
      refine O.nil (by kernel_rfl) ?_
      obtain rfl := Option.some.inj H
      exact J.doneS [(1, 0)] [p0_0, 0] [3] [] [] g1 (vs := [.agg #[.slice g1.1 s1.2.2.length g1.2], .int .i64 (IntKind.wrap .i64 (s1.1 + 1)), .bool false]) (by kernel_rfl) (by kernel_rfl) (by kernel_rfl) (by kernel_rfl) (by kernel_rfl) (by decide)
     ·refine J.condF (x := .tmp 43) (t := (x8_8.2 != 0)) (by kernel_rfl) (by kernel_rfl) hc14 ?_
      refine J.skip (by kernel_rfl) ?_
      refine J.seq (by kernel_rfl) ?_
      obtain ⟨x11_4, hx11_4, H⟩ := bindE H
      refine J.region (by kernel_rfl) ?_
      refine O.pure 4 [(0, 0)] [0, 2, 5, 6, 7, 8, 17, 18, 47, 48, 50] [p1_0, 0] (fr' := [(0, .slice h0.1 a0.length h0.2), (2, .pointer (some ⟨p0_0, 0, none⟩)), (5, .pointer (some ⟨p1_0, 0, none⟩)), (6, .int .i64 (IntKind.wrap .i64 (s1.1 + 1))), (7, .int .i64 s1.2.1), (8, .slice p8_8.1 x8_8.1.length p8_8.2), (17, .int .i64 s1.2.1), (18, .bool (decide (s1.2.1 < 10))), (47, .agg #[.slice g1.1 s1.2.2.length g1.2]), (48, .slice p8_8.1 x8_8.1.length p8_8.2), (50, .int .i64 (x8_8.1.length : Int))]) (bx' := [⟨p1_0, [.slice g1.1 s1.2.2.length g1.2], 24⟩, ⟨p0_0, [.slice none 0 0], 24⟩]) (by kernel_rfl) ?_
      refine O.e (some 51) (Ev.mono (fun w hS => hS.freezeH (h := p8_8) (xs := x8_8.1)) (Ev.call0 (xs := [.tmp 47, .tmp 48, .tmp 50]) [4, 0] (by kernel_rfl) (by kernel_rfl) (fun w hS => ckpt_Do.con K (⟨s1.2.2⟩ : S24) x8_8.1 (x8_8.1.length : Int) g1 p8_8  _ _ w hS hx11_4))) (by kernel_rfl) (fun p11_4 => ?_)
      refine O.pure 3 [] [0, 2, 5, 6, 7, 8, 17, 18, 52, 53] [] (fr' := [(0, .slice h0.1 a0.length h0.2), (2, .pointer (some ⟨p0_0, 0, none⟩)), (5, .pointer (some ⟨p1_0, 0, none⟩)), (6, .int .i64 (IntKind.wrap .i64 (s1.1 + 1))), (7, .int .i64 s1.2.1), (8, .slice p8_8.1 x8_8.1.length p8_8.2), (17, .int .i64 s1.2.1), (18, .bool (decide (s1.2.1 < 10))), (52, .agg #[.slice p11_4.1 x11_4.1.f0.length p11_4.2]), (53, .int .i64 x11_4.2)]) (bx' := [⟨p1_0, [.slice g1.1 s1.2.2.length g1.2], 24⟩, ⟨p0_0, [.slice none 0 0], 24⟩]) (by kernel_rfl) ?_
      refine O.e (some 10) (Ev.alloc (t := 24) (z := .agg #[.slice none 0 0]) (by kernel_rfl) (by kernel_rfl)) (by kernel_rfl) (fun p11_8 => ?_)
      refine O.pure 2 [(0, 0)] [0, 2, 5, 6, 7, 8, 10, 11, 17, 18] [p11_8, 0] (fr' := [(0, .slice h0.1 a0.length h0.2), (2, .pointer (some ⟨p0_0, 0, none⟩)), (5, .pointer (some ⟨p1_0, 0, none⟩)), (6, .int .i64 (IntKind.wrap .i64 (s1.1 + 1))), (7, .int .i64 s1.2.1), (8, .slice p8_8.1 x8_8.1.length p8_8.2), (10, .pointer (some ⟨p11_8, 0, none⟩)), (11, .int .i64 x11_4.2), (17, .int .i64 s1.2.1), (18, .bool (decide (s1.2.1 < 10)))]) (bx' := [⟨p11_8, [.slice p11_4.1 x11_4.1.f0.length p11_4.2], 24⟩, ⟨p1_0, [.slice g1.1 s1.2.2.length g1.2], 24⟩, ⟨p0_0, [.slice none 0 0], 24⟩]) (by kernel_rfl) ?_
      refine O.nil (by kernel_rfl) ?_
      refine J.seq (by kernel_rfl) ?_
      refine J.seq (by kernel_rfl) ?_
      refine J.region (by kernel_rfl) ?_
      refine O.pure 4 [] [0, 2, 5, 6, 7, 10, 17, 18, 57] [] (fr' := [(0, .slice h0.1 a0.length h0.2), (2, .pointer (some ⟨p0_0, 0, none⟩)), (5, .pointer (some ⟨p1_0, 0, none⟩)), (6, .int .i64 (IntKind.wrap .i64 (s1.1 + 1))), (7, .int .i64 s1.2.1), (10, .pointer (some ⟨p11_8, 0, none⟩)), (17, .int .i64 s1.2.1), (18, .bool (decide (s1.2.1 < 10))), (57, .bool (x11_4.2 != (x8_8.1.length : Int)))]) (bx' := [⟨p11_8, [.slice p11_4.1 x11_4.1.f0.length p11_4.2], 24⟩, ⟨p1_0, [.slice g1.1 s1.2.2.length g1.2], 24⟩, ⟨p0_0, [.slice none 0 0], 24⟩]) (by kernel_rfl) ?_
      refine O.nil (by kernel_rfl) ?_
      rcases condE H with ⟨hc15, H⟩ | ⟨hc15, H⟩
      ·refine J.condT (x := .tmp 57) (t := (x11_4.2 != (x8_8.1.length : Int))) (by kernel_rfl) (by kernel_rfl) hc15 ?_
       refine J.seq (by kernel_rfl) ?_
       refine J.region (by kernel_rfl) ?_
       refine O.pure 5 [(1, 0), (2, 0)] [2, 3, 4] [p1_0, 0, p0_0, 0] (fr' := [(2, .pointer (some ⟨p0_0, 0, none⟩)), (3, .int .i64 (IntKind.wrap .i64 (s1.1 + 1))), (4, .bool false)]) (bx' := [⟨p11_8, [.slice p11_4.1 x11_4.1.f0.length p11_4.2], 24⟩, ⟨p1_0, [.slice g1.1 s1.2.2.length g1.2], 24⟩, ⟨p0_0, [.slice g1.1 s1.2.2.length g1.2], 24⟩]) (by kernel_rfl) ?_
       refine O.nil (by kernel_rfl) ?_
       obtain rfl := Option.some.inj H
       exact J.doneS [(2, 0)] [p0_0, 0] [5] [] [] g1 (vs := [.agg #[.slice g1.1 s1.2.2.length g1.2], .int .i64 (IntKind.wrap .i64 (s1.1 + 1)), .bool false]) (by kernel_rfl) (by kernel_rfl) (by kernel_rfl) (by kernel_rfl) (by kernel_rfl) (by decide)
      ·refine J.condF (x := .tmp 57) (t := (x11_4.2 != (x8_8.1.length : Int))) (by kernel_rfl) (by kernel_rfl) hc15 ?_
       refine J.skip (by kernel_rfl) ?_
       refine J.region (by kernel_rfl) ?_
       refine O.pure 2 [(0, 0), (1, 0)] [0, 2, 5, 6, 7, 17, 18] [p11_8, 0, p1_0, 0] (fr' := [(0, .slice h0.1 a0.length h0.2), (2, .pointer (some ⟨p0_0, 0, none⟩)), (5, .pointer (some ⟨p1_0, 0, none⟩)), (6, .int .i64 (IntKind.wrap .i64 (s1.1 + 1))), (7, .int .i64 s1.2.1), (17, .int .i64 s1.2.1), (18, .bool (decide (s1.2.1 < 10)))]) (bx' := [⟨p11_8, [.slice p11_4.1 x11_4.1.f0.length p11_4.2], 24⟩, ⟨p1_0, [.slice p11_4.1 x11_4.1.f0.length p11_4.2], 24⟩, ⟨p0_0, [.slice none 0 0], 24⟩]) (by kernel_rfl) ?_
       refine O.nil (by kernel_rfl) ?_
       refine J.out ?_
       refine J.region (by kernel_rfl) ?_
       refine O.pure 3 [] [0, 2, 5, 6, 7, 17, 18] [] (fr' := [(0, .slice h0.1 a0.length h0.2), (2, .pointer (some ⟨p0_0, 0, none⟩)), (5, .pointer (some ⟨p1_0, 0, none⟩)), (6, .int .i64 (IntKind.wrap .i64 (s1.1 + 1))), (7, .int .i64 (IntKind.wrap .i64 (s1.2.1 + 1))), (17, .int .i64 s1.2.1), (18, .bool (decide (s1.2.1 < 10)))]) (bx' := [⟨p11_8, [.slice p11_4.1 x11_4.1.f0.length p11_4.2], 24⟩, ⟨p1_0, [.slice p11_4.1 x11_4.1.f0.length p11_4.2], 24⟩, ⟨p0_0, [.slice none 0 0], 24⟩]) (by kernel_rfl) ?_
       refine O.nil (by kernel_rfl) ?_
       exact J.conv2 [0, 2, 5, 6, 7] [0, 6] [1, 2] [] (by kernel_rfl) (by kernel_rfl) (by kernel_rfl) (by kernel_rfl) (by decide) (ih1 ((IntKind.wrap .i64 (s1.1 + 1)), (IntKind.wrap .i64 (s1.2.1 + 1)), x11_4.1.f0) p11_4 H)
   ·refine J.condF (x := .tmp 19) (t := (decide (s1.2.1 < 10))) (by kernel_rfl) (by kernel_rfl) hc12 ?_
    refine J.exit (id := 0) (by kernel_rfl) rfl ?_
    refine J.seq (by kernel_rfl) ?_
    refine J.region (by kernel_rfl) ?_
    refine O.pure 5 [(0, 0), (1, 0)] [2, 3, 4] [p1_0, 0, p0_0, 0] (fr' := [(2, .pointer (some ⟨p0_0, 0, none⟩)), (3, .int .i64 s1.1), (4, .bool true)]) (bx' := [⟨p1_0, [.slice g1.1 s1.2.2.length g1.2], 24⟩, ⟨p0_0, [.slice g1.1 s1.2.2.length g1.2], 24⟩]) (by kernel_rfl) ?_
    refine O.nil (by kernel_rfl) ?_
    obtain rfl := Option.some.inj H
    exact J.doneS [(1, 0)] [p0_0, 0] [0] [] [] g1 (vs := [.agg #[.slice g1.1 s1.2.2.length g1.2], .int .i64 s1.1, .bool true]) (by kernel_rfl) (by kernel_rfl) (by kernel_rfl) (by kernel_rfl) (by kernel_rfl) (by decide)
  ·refine J.region (by kernel_rfl) ?_
   refine O.pure 3 [] [0, 2, 5, 6, 7, 12, 14] [] (fr' := [(0, .slice h0.1 a0.length h0.2), (2, .pointer (some ⟨p0_0, 0, none⟩)), (5, .pointer (some ⟨p1_0, 0, none⟩)), (6, .int .i64 s1.1), (7, .int .i64 s1.2.1), (12, .int .i64 s1.2.1), (14, .int .i64 (a0.length : Int))]) (bx' := [⟨p1_0, [.slice g1.1 s1.2.2.length g1.2], 24⟩, ⟨p0_0, [.slice none 0 0], 24⟩]) (by kernel_rfl) ?_
   refine O.q (v := .bool false) (some 15) (Qu.eqv (u := .bool (decide (s1.2.1 < (a0.length : Int)))) (v := .bool false) (0, 0) [] (by kernel_rfl) (congrArg Value.bool hc11)) (by kernel_rfl) ?_
   refine O.pure 4 [] [0, 2, 5, 6, 7, 17, 18, 19] [] (fr' := [(0, .slice h0.1 a0.length h0.2), (2, .pointer (some ⟨p0_0, 0, none⟩)), (5, .pointer (some ⟨p1_0, 0, none⟩)), (6, .int .i64 s1.1), (7, .int .i64 s1.2.1), (17, undef), (18, undef), (19, .bool false)]) (bx' := [⟨p1_0, [.slice g1.1 s1.2.2.length g1.2], 24⟩, ⟨p0_0, [.slice none 0 0], 24⟩]) (by kernel_rfl) ?_
   refine O.nil (by kernel_rfl) ?_
   refine J.cond (o := .tmp 19) false (by kernel_rfl) (by kernel_rfl) ?_
   refine J.exit (id := 0) (by kernel_rfl) rfl ?_
   refine J.seq (by kernel_rfl) ?_
   refine J.region (by kernel_rfl) ?_
   refine O.pure 5 [(0, 0), (1, 0)] [2, 3, 4] [p1_0, 0, p0_0, 0] (fr' := [(2, .pointer (some ⟨p0_0, 0, none⟩)), (3, .int .i64 s1.1), (4, .bool true)]) (bx' := [⟨p1_0, [.slice g1.1 s1.2.2.length g1.2], 24⟩, ⟨p0_0, [.slice g1.1 s1.2.2.length g1.2], 24⟩]) (by kernel_rfl) ?_
   refine O.nil (by kernel_rfl) ?_
   obtain rfl := Option.some.inj H
   exact J.doneS [(1, 0)] [p0_0, 0] [0] [] [] g1 (vs := [.agg #[.slice g1.1 s1.2.2.length g1.2], .int .i64 s1.1, .bool true]) (by kernel_rfl) (by kernel_rfl) (by kernel_rfl) (by kernel_rfl) (by kernel_rfl) (by decide)
 ·refine J.nilF kd70 ?_
  exact J.conv2 [0, 2, 5, 6, 7] [0, 1] [0, 1] [] (by kernel_rfl) (by kernel_rfl) (by kernel_rfl) (by kernel_rfl) (by decide) h_
/-! ### haywain/disk.Cut: function 50 -/
def disk_Cut.f (K : Nat) (a0 : S24) (a1 : ByteArray) (a2 : Int) : Option (S24 × Int) := (disk_own.f K a0).bind fun x1_1 => (disk_at.f K x1_1 a1).bind fun x2_2 => cond (decide (x2_2 < 0)) (some ((x1_1, 4))) (cond (decide (a2 < 0)) (some ((x1_1, 1))) ((idxO x1_1.f0 x2_2).bind fun x5_7 => cond (decide (a2 > (x5_7.f1.length : Int))) (some ((x1_1, 1))) ((idxO x1_1.f0 x2_2).bind fun x7_9 => (cutO x7_9.f1 0 a2).bind fun y7_14 => some (((⟨((x1_1.f0.set x2_2.toNat (⟨x7_9.f0, (cutL x7_9.f1 ((0 : Int).toNat) ((a2 : Int).toNat)), x7_9.f2⟩ : S70)).set x2_2.toNat (⟨x7_9.f0, (cutL x7_9.f1 ((0 : Int).toNat) ((a2 : Int).toNat)), a2⟩ : S70))⟩ : S24), 0)))))
set_option maxRecDepth 100000 in
set_option maxHeartbeats 1000000 in
theorem disk_Cut.con (K : Nat) (a0 : S24) (a1 : ByteArray) (a2 : Int) (h0 : Hd) (r : (S24 × Int)) (X : Nat → Nat → Prop) (w : World) (hS : St X w [] [] [] [] [Rd kd70 h0.1 h0.2 a0.f0] w) (H : disk_Cut.f K a0 a1 a2 = some r) :
    Cn Try.prog 50 [.agg #[.slice h0.1 a0.f0.length h0.2], .string a1, .int .i64 a2] X w [] (fun i : Hd => .tuple #[.agg #[.slice i.1 r.1.f0.length i.2], .int .i64 r.2]) (fun i => []) (fun i => [mkRow kd70 70 (.slice i.1 r.1.f0.length i.2) r.1.f0]) (fun i => []) := by
 refine Cn.of Try.func50 (by kernel_rfl) hS ?_
 unfold disk_Cut.f at H
 refine J.seq (by kernel_rfl) ?_
 refine J.region (by kernel_rfl) ?_
 refine O.e (some 3) (Ev.box (t := 24) (x := .tmp 0) (v := .agg #[.slice h0.1 a0.f0.length h0.2]) (by kernel_rfl) (by kernel_rfl)) (by kernel_rfl) (fun p0_0 => ?_)
 refine O.e (some 6) (Ev.alloc (t := 24) (z := .agg #[.slice none 0 0]) (by kernel_rfl) (by kernel_rfl)) (by kernel_rfl) (fun p0_1 => ?_)
 refine O.pure 1 [] [1, 2, 3, 6] [] (fr' := [(1, .string a1), (2, .int .i64 a2), (3, .pointer (some ⟨p0_0, 0, none⟩)), (6, .pointer (some ⟨p0_1, 0, none⟩))]) (bx' := [⟨p0_1, [.slice none 0 0], 24⟩, ⟨p0_0, [.slice h0.1 a0.f0.length h0.2], 24⟩]) (by kernel_rfl) ?_
 refine O.nil (by kernel_rfl) ?_
 refine J.seq (by kernel_rfl) ?_
 obtain ⟨x1_1, hx1_1, H⟩ := bindE H
 refine J.region (by kernel_rfl) ?_
 refine O.pure 1 [(1, 0)] [1, 2, 3, 6, 9] [p0_0, 0] (fr' := [(1, .string a1), (2, .int .i64 a2), (3, .pointer (some ⟨p0_0, 0, none⟩)), (6, .pointer (some ⟨p0_1, 0, none⟩)), (9, .agg #[.slice h0.1 a0.f0.length h0.2])]) (bx' := [⟨p0_1, [.slice none 0 0], 24⟩, ⟨p0_0, [.slice h0.1 a0.f0.length h0.2], 24⟩]) (by kernel_rfl) ?_
 refine O.e (some 10) (Ev.call0 (xs := [.tmp 9]) [0] (by kernel_rfl) (by kernel_rfl) (fun w hS => disk_own.con K a0 h0  _ _ w hS hx1_1)) (by kernel_rfl) (fun p1_1 => ?_)
 refine O.pure 1 [(1, 0)] [1, 2, 3, 6] [p0_0, 0] (fr' := [(1, .string a1), (2, .int .i64 a2), (3, .pointer (some ⟨p0_0, 0, none⟩)), (6, .pointer (some ⟨p0_1, 0, none⟩))]) (bx' := [⟨p0_1, [.slice none 0 0], 24⟩, ⟨p0_0, [.slice p1_1.1 x1_1.f0.length p1_1.2], 24⟩]) (by kernel_rfl) ?_
 refine O.nil (by kernel_rfl) ?_
 refine J.seq (by kernel_rfl) ?_
 obtain ⟨x2_2, hx2_2, H⟩ := bindE H
 refine J.region (by kernel_rfl) ?_
 refine O.pure 2 [(1, 0)] [2, 3, 6, 11, 12] [p0_0, 0] (fr' := [(2, .int .i64 a2), (3, .pointer (some ⟨p0_0, 0, none⟩)), (6, .pointer (some ⟨p0_1, 0, none⟩)), (11, .agg #[.slice p1_1.1 x1_1.f0.length p1_1.2]), (12, .string a1)]) (bx' := [⟨p0_1, [.slice none 0 0], 24⟩, ⟨p0_0, [.slice p1_1.1 x1_1.f0.length p1_1.2], 24⟩]) (by kernel_rfl) ?_
 refine O.e (some 13) (Ev.callLb (xs1 := [.tmp 11, .tmp 12]) [0] (fun w hS => (hS.rowsel [0] rfl (by decide)).freezeL (hh := p1_1) (m := x1_1.f0.length) (xs := x1_1.f0) rfl) (by kernel_rfl) (by kernel_rfl) (fun _ q hq => by cases hq) (fun w hS => disk_at.con K x1_1 a1 p1_1  _ _ w hS hx2_2)) (by kernel_rfl) (fun _ => ?_)
 refine O.pure 1 [] [2, 3, 6, 8] [] (fr' := [(2, .int .i64 a2), (3, .pointer (some ⟨p0_0, 0, none⟩)), (6, .pointer (some ⟨p0_1, 0, none⟩)), (8, .int .i64 x2_2)]) (bx' := [⟨p0_1, [.slice none 0 0], 24⟩, ⟨p0_0, [.slice p1_1.1 x1_1.f0.length p1_1.2], 24⟩]) (by kernel_rfl) ?_
 refine O.nil (by kernel_rfl) ?_
 refine J.seq (by kernel_rfl) ?_
 refine J.seq (by kernel_rfl) ?_
 refine J.region (by kernel_rfl) ?_
 refine O.pure 2 [] [2, 3, 6, 8, 15] [] (fr' := [(2, .int .i64 a2), (3, .pointer (some ⟨p0_0, 0, none⟩)), (6, .pointer (some ⟨p0_1, 0, none⟩)), (8, .int .i64 x2_2), (15, .bool (decide (x2_2 < 0)))]) (bx' := [⟨p0_1, [.slice none 0 0], 24⟩, ⟨p0_0, [.slice p1_1.1 x1_1.f0.length p1_1.2], 24⟩]) (by kernel_rfl) ?_
 refine O.nil (by kernel_rfl) ?_
 rcases condE H with ⟨hc1, H⟩ | ⟨hc1, H⟩
 ·refine J.condT (x := .tmp 15) (t := (decide (x2_2 < 0))) (by kernel_rfl) (by kernel_rfl) hc1 ?_
  refine J.seq (by kernel_rfl) ?_
  refine J.region (by kernel_rfl) ?_
  refine O.pure 3 [(1, 0), (0, 0)] [6, 7] [p0_0, 0, p0_1, 0] (fr' := [(6, .pointer (some ⟨p0_1, 0, none⟩)), (7, .int .i64 4)]) (bx' := [⟨p0_1, [.slice p1_1.1 x1_1.f0.length p1_1.2], 24⟩, ⟨p0_0, [.slice p1_1.1 x1_1.f0.length p1_1.2], 24⟩]) (by kernel_rfl) ?_
  refine O.nil (by kernel_rfl) ?_
  obtain rfl := Option.some.inj H
  exact J.doneS [(0, 0)] [p0_1, 0] [] [] [0] p1_1 (vs := [.agg #[.slice p1_1.1 x1_1.f0.length p1_1.2], .int .i64 4]) (by kernel_rfl) (by kernel_rfl) (by kernel_rfl) (by kernel_rfl) (by kernel_rfl) (by decide)
 ·refine J.condF (x := .tmp 15) (t := (decide (x2_2 < 0))) (by kernel_rfl) (by kernel_rfl) hc1 ?_
  refine J.skip (by kernel_rfl) ?_
  refine J.seq (by kernel_rfl) ?_
  refine J.seq (by kernel_rfl) ?_
  rcases condE H with ⟨hc2, H⟩ | ⟨hc2, H⟩
  ·refine J.region (by kernel_rfl) ?_
   refine O.pure 1 [] [2, 3, 6, 8, 17] [] (fr' := [(2, .int .i64 a2), (3, .pointer (some ⟨p0_0, 0, none⟩)), (6, .pointer (some ⟨p0_1, 0, none⟩)), (8, .int .i64 x2_2), (17, .int .i64 a2)]) (bx' := [⟨p0_1, [.slice none 0 0], 24⟩, ⟨p0_0, [.slice p1_1.1 x1_1.f0.length p1_1.2], 24⟩]) (by kernel_rfl) ?_
   refine O.q (v := .bool true) (some 18) (Qu.eqv (u := .bool (decide (a2 < 0))) (v := .bool true) (0, 0) [] (by kernel_rfl) (congrArg Value.bool hc2)) (by kernel_rfl) ?_
   refine O.pure 11 [] [2, 3, 6, 8, 29] [] (fr' := [(2, .int .i64 a2), (3, .pointer (some ⟨p0_0, 0, none⟩)), (6, .pointer (some ⟨p0_1, 0, none⟩)), (8, .int .i64 x2_2), (29, .bool true)]) (bx' := [⟨p0_1, [.slice none 0 0], 24⟩, ⟨p0_0, [.slice p1_1.1 x1_1.f0.length p1_1.2], 24⟩]) (by kernel_rfl) ?_
   refine O.nil (by kernel_rfl) ?_
   refine J.cond (o := .tmp 29) true (by kernel_rfl) (by kernel_rfl) ?_
   refine J.seq (by kernel_rfl) ?_
   refine J.region (by kernel_rfl) ?_
   refine O.pure 3 [(1, 0), (0, 0)] [6, 7] [p0_0, 0, p0_1, 0] (fr' := [(6, .pointer (some ⟨p0_1, 0, none⟩)), (7, .int .i64 1)]) (bx' := [⟨p0_1, [.slice p1_1.1 x1_1.f0.length p1_1.2], 24⟩, ⟨p0_0, [.slice p1_1.1 x1_1.f0.length p1_1.2], 24⟩]) (by kernel_rfl) ?_
   refine O.nil (by kernel_rfl) ?_
   obtain rfl := Option.some.inj H
   exact J.doneS [(0, 0)] [p0_1, 0] [] [] [0] p1_1 (vs := [.agg #[.slice p1_1.1 x1_1.f0.length p1_1.2], .int .i64 1]) (by kernel_rfl) (by kernel_rfl) (by kernel_rfl) (by kernel_rfl) (by kernel_rfl) (by decide)
  ·obtain ⟨x5_7, hx5_7, H⟩ := bindE H
   obtain ⟨hx5_7a, hx5_7⟩ := idxE hx5_7
   refine J.region (by kernel_rfl) ?_
   refine O.pure 1 [] [2, 3, 6, 8, 17] [] (fr' := [(2, .int .i64 a2), (3, .pointer (some ⟨p0_0, 0, none⟩)), (6, .pointer (some ⟨p0_1, 0, none⟩)), (8, .int .i64 x2_2), (17, .int .i64 a2)]) (bx' := [⟨p0_1, [.slice none 0 0], 24⟩, ⟨p0_0, [.slice p1_1.1 x1_1.f0.length p1_1.2], 24⟩]) (by kernel_rfl) ?_
   refine O.q (v := .bool false) (some 18) (Qu.eqv (u := .bool (decide (a2 < 0))) (v := .bool false) (0, 0) [] (by kernel_rfl) (congrArg Value.bool hc2)) (by kernel_rfl) ?_
   refine O.pure 5 [(1, 0)] [2, 3, 6, 8, 19, 20, 22, 23] [p0_0, 0] (fr' := [(2, .int .i64 a2), (3, .pointer (some ⟨p0_0, 0, none⟩)), (6, .pointer (some ⟨p0_1, 0, none⟩)), (8, .int .i64 x2_2), (19, .bool false), (20, .int .i64 a2), (22, .slice p1_1.1 x1_1.f0.length p1_1.2), (23, .int .i64 x2_2)]) (bx' := [⟨p0_1, [.slice none 0 0], 24⟩, ⟨p0_0, [.slice p1_1.1 x1_1.f0.length p1_1.2], 24⟩]) (by kernel_rfl) ?_
   refine O.mono (fun w hS => hS.pk) ?_
   refine O.peek (d := kd70) (hh := p1_1) (m := x1_1.f0.length) (i := x2_2) (by simpa only [List.length_set] using hx5_7) (op70 _) (fun p5_7 hp5_7A => ?_)
   refine O.q (v := .pointer (some ⟨p5_7.1, 0 + x2_2.toNat * 3, none⟩)) (some 24) (Qu.idx (t := 22) (x := .tmp 22) (y := .tmp 23) (len := x1_1.f0.length) (c := p1_1.2) (kk := .i64) (sz := 3) (by kernel_rfl) (by kernel_rfl) (by kernel_rfl) (by kernel_rfl) hx5_7a (by have := idx_lt hx5_7; simpa only [List.length_set, List.length_replicate] using this) hp5_7A) (by kernel_rfl) ?_
   refine O.pure 1 [] [2, 3, 6, 8, 19, 20, 25] [] (fr' := [(2, .int .i64 a2), (3, .pointer (some ⟨p0_0, 0, none⟩)), (6, .pointer (some ⟨p0_1, 0, none⟩)), (8, .int .i64 x2_2), (19, .bool false), (20, .int .i64 a2), (25, .pointer (some ⟨p5_7.1, 0 + x2_2.toNat * 3 + 1, none⟩))]) (bx' := [⟨p0_1, [.slice none 0 0], 24⟩, ⟨p0_0, [.slice p1_1.1 x1_1.f0.length p1_1.2], 24⟩]) (by kernel_rfl) ?_
   refine O.q (v := .slice p5_7.2.1 x5_7.f1.length p5_7.2.2) (some 26) (Qu.loadR (t := 27) (x := .tmp 25) (hh := p1_1) (m := x1_1.f0.length) (i := x2_2.toNat) (u := .pointer (some ⟨p5_7.1, 0 + x2_2.toNat * 3 + 1, none⟩)) (r := .slice p5_7.2.1 x5_7.f1.length p5_7.2.2) (cs := [.string x5_7.f0, .slice p5_7.2.1 x5_7.f1.length p5_7.2.2, .int .i64 x5_7.f2]) 0 1 [p5_7.1, 0 + x2_2.toNat * 3 + 1] (by kernel_rfl) (by kernel_rfl) hp5_7A rfl (by kernel_rfl)) (by kernel_rfl) ?_
   refine O.pure 3 [] [2, 3, 6, 8, 29] [] (fr' := [(2, .int .i64 a2), (3, .pointer (some ⟨p0_0, 0, none⟩)), (6, .pointer (some ⟨p0_1, 0, none⟩)), (8, .int .i64 x2_2), (29, .bool (decide (a2 > (x5_7.f1.length : Int))))]) (bx' := [⟨p0_1, [.slice none 0 0], 24⟩, ⟨p0_0, [.slice p1_1.1 x1_1.f0.length p1_1.2], 24⟩]) (by kernel_rfl) ?_
   refine O.nil (by kernel_rfl) ?_
   refine J.mono (fun w hS => hS.unpk) ?_
   rcases condE H with ⟨hc3, H⟩ | ⟨hc3, H⟩
   ·refine J.condT (x := .tmp 29) (t := (decide (a2 > (x5_7.f1.length : Int)))) (by kernel_rfl) (by kernel_rfl) hc3 ?_
    refine J.seq (by kernel_rfl) ?_
    refine J.region (by kernel_rfl) ?_
    refine O.pure 3 [(1, 0), (0, 0)] [6, 7] [p0_0, 0, p0_1, 0] (fr' := [(6, .pointer (some ⟨p0_1, 0, none⟩)), (7, .int .i64 1)]) (bx' := [⟨p0_1, [.slice p1_1.1 x1_1.f0.length p1_1.2], 24⟩, ⟨p0_0, [.slice p1_1.1 x1_1.f0.length p1_1.2], 24⟩]) (by kernel_rfl) ?_
    refine O.nil (by kernel_rfl) ?_
    obtain rfl := Option.some.inj H
    exact J.doneS [(0, 0)] [p0_1, 0] [] [] [0] p1_1 (vs := [.agg #[.slice p1_1.1 x1_1.f0.length p1_1.2], .int .i64 1]) (by kernel_rfl) (by kernel_rfl) (by kernel_rfl) (by kernel_rfl) (by kernel_rfl) (by decide)
   ·refine J.condF (x := .tmp 29) (t := (decide (a2 > (x5_7.f1.length : Int)))) (by kernel_rfl) (by kernel_rfl) hc3 ?_
    refine J.skip (by kernel_rfl) ?_
    refine J.seq (by kernel_rfl) ?_
    obtain ⟨x7_9, hx7_9, H⟩ := bindE H
    obtain ⟨hx7_9a, hx7_9⟩ := idxE hx7_9
    obtain ⟨y7_14, hy7_14, H⟩ := bindE H
    obtain ⟨hy7_14a, hy7_14b, hy7_14c, -⟩ := cutE hy7_14
    refine J.mono (fun w hS => hS.pk) ?_
    refine J.peek (d := kd70) (hh := p1_1) (m := x1_1.f0.length) (i := x2_2) (by simpa only [List.length_set] using hx7_9) (op70 _) (fun p7_9 hp7_9A => ?_)
    refine J.drawS (by kernel_rfl) [(0, some 31, .pointer (some ⟨p0_0, 0, none⟩)), (1, some 32, .slice p1_1.1 x1_1.f0.length p1_1.2), (2, some 33, .int .i64 x2_2), (3, some 34, .pointer (some ⟨p0_0, 0, none⟩)), (4, some 35, .slice p1_1.1 x1_1.f0.length p1_1.2), (5, some 36, .int .i64 x2_2), (6, some 37, .pointer (some ⟨p0_0, 0, none⟩)), (7, some 38, .slice p1_1.1 x1_1.f0.length p1_1.2), (8, some 39, .int .i64 x2_2), (10, some 41, .pointer (some ⟨p7_9.1, 0 + x2_2.toNat * 3 + 1, none⟩)), (12, some 43, .int .i64 a2), (13, some 44, .int .i64 a2), (15, some 46, .int .i64 a2), (9, some 40, .pointer (some ⟨p7_9.1, 0 + x2_2.toNat * 3, none⟩)), (11, some 42, .slice p7_9.2.1 x7_9.f1.length p7_9.2.2)] ([0, 1, 2, 3, 4, 5, 6, 7, 8, 10, 12, 13, 15] ++ [9, 11]) (by kernel_rfl) ?_
    refine D.mid (cs := [14]) [0, 1, 2, 3, 4, 5, 6, 7, 8, 10, 12, 13, 15] [9, 11] [(1, 0), (1, 0), (1, 0)] [p0_0, 0, p0_0, 0, p0_0, 0] (by kernel_rfl) (by kernel_rfl) (⟨QuAt.mk (v := .pointer (some ⟨p7_9.1, 0 + x2_2.toNat * 3, none⟩)) (some 40) (by kernel_rfl) (by kernel_rfl) (Qu.idx (t := 22) (x := .tmp 38) (y := .tmp 39) (len := x1_1.f0.length) (c := p1_1.2) (kk := .i64) (sz := 3) (by kernel_rfl) (by kernel_rfl) (by kernel_rfl) (by kernel_rfl) hx7_9a (by have := idx_lt hx7_9; simpa only [List.length_set, List.length_replicate] using this) hp7_9A), QuAt.mk (v := .slice p7_9.2.1 x7_9.f1.length p7_9.2.2) (some 42) (by kernel_rfl) (by kernel_rfl) (Qu.loadR (t := 27) (x := .tmp 41) (hh := p1_1) (m := x1_1.f0.length) (i := x2_2.toNat) (u := .pointer (some ⟨p7_9.1, 0 + x2_2.toNat * 3 + 1, none⟩)) (r := .slice p7_9.2.1 x7_9.f1.length p7_9.2.2) (cs := [.string x7_9.f0, .slice p7_9.2.1 x7_9.f1.length p7_9.2.2, .int .i64 x7_9.f2]) 0 1 [p7_9.1, 0 + x2_2.toNat * 3 + 1] (by kernel_rfl) (by kernel_rfl) hp7_9A rfl (by kernel_rfl)), trivial⟩) (by kernel_rfl) ⟨?_, trivial⟩
    refine EvStep.mk (some 45) (new := fun p7_14 => [(16, some 47, .pointer (some ⟨p7_9.1, 0 + x2_2.toNat * 3, none⟩)), (17, some 48, .pointer (some ⟨p7_9.1, 0 + x2_2.toNat * 3 + 1, none⟩))]) ([0, 1, 2, 3, 4, 5, 6, 7, 8, 10, 15, 17] ++ [9, 16]) (by kernel_rfl) (Ev.cut3 (d := (Kd.int .u8)) (xs := x7_9.f1) (t := 27) (x := .tmp 42) (lo := none) (hi := (some (.tmp 43))) (mx := (some (.tmp 44))) (vlo := none) (vhi := (some (.int .i64 a2))) (vmx := (some (.int .i64 a2))) (A := p7_9.2.1) (c := p7_9.2.2) (l := (0 : Int).toNat) (h := (a2 : Int).toNat) 0 (by kernel_rfl) (by kernel_rfl) (by kernel_rfl) (by kernel_rfl) (by kernel_rfl) (by kernel_rfl) (Bd.dflt _) ⟨_, _, rfl, by omega, rfl⟩ ⟨_, _, rfl, by omega, rfl⟩ (by omega) (by omega) rfl) (fun p7_14 => by kernel_rfl) (fun p7_14 => ?_)
    refine D.mid (cs := [18]) [0, 1, 2, 3, 4, 5, 6, 7, 8, 10, 15, 17] [9, 16] [(1, 0), (1, 0), (1, 0)] [p0_0, 0, p0_0, 0, p0_0, 0] (by kernel_rfl) (by kernel_rfl) (⟨QuAt.mk (v := .pointer (some ⟨p7_9.1, 0 + x2_2.toNat * 3, none⟩)) (some 40) (by kernel_rfl) (by kernel_rfl) (Qu.idx (t := 22) (x := .tmp 38) (y := .tmp 39) (len := x1_1.f0.length) (c := p1_1.2) (kk := .i64) (sz := 3) (by kernel_rfl) (by kernel_rfl) (by kernel_rfl) (by kernel_rfl) hx7_9a (by have := idx_lt hx7_9; simpa only [List.length_set, List.length_replicate] using this) hp7_9A), QuAt.mk (v := .pointer (some ⟨p7_9.1, 0 + x2_2.toNat * 3, none⟩)) (some 47) (by kernel_rfl) (by kernel_rfl) (Qu.idx (t := 22) (x := .tmp 32) (y := .tmp 33) (len := x1_1.f0.length) (c := p1_1.2) (kk := .i64) (sz := 3) (by kernel_rfl) (by kernel_rfl) (by kernel_rfl) (by kernel_rfl) hx7_9a (by have := idx_lt hx7_9; simpa only [List.length_set, List.length_replicate] using this) hp7_9A), trivial⟩) (by kernel_rfl) ⟨?_, trivial⟩
    refine EvStep.mk none (new := fun _ => [(19, some 49, .pointer (some ⟨p7_9.1, 0 + x2_2.toNat * 3, none⟩)), (20, some 50, .pointer (some ⟨p7_9.1, 0 + x2_2.toNat * 3 + 2, none⟩))]) ([3, 4, 5, 15, 20] ++ [16, 19]) (by kernel_rfl) (Ev.storeR (t := 27) (x := .tmp 48) (y := .tmp 45) (hh := p1_1) (m := x1_1.f0.length) (g := p7_9.1) (i := x2_2.toNat) (f := 1) (s := 1) (u := .pointer (some ⟨p7_9.1, 0 + x2_2.toNat * 3 + 1, none⟩)) (z := .slice ((p7_14, (cutL x7_9.f1 ((0 : Int).toNat) ((a2 : Int).toNat)).length) : Hd).1 (cutL x7_9.f1 ((0 : Int).toNat) ((a2 : Int).toNat)).length ((p7_14, (cutL x7_9.f1 ((0 : Int).toNat) ((a2 : Int).toNat)).length) : Hd).2) (cs := [.string x7_9.f0, .slice p7_9.2.1 x7_9.f1.length p7_9.2.2, .int .i64 x7_9.f2]) (ncs := [.string x7_9.f0, .slice ((p7_14, (cutL x7_9.f1 ((0 : Int).toNat) ((a2 : Int).toNat)).length) : Hd).1 (cutL x7_9.f1 ((0 : Int).toNat) ((a2 : Int).toNat)).length ((p7_14, (cutL x7_9.f1 ((0 : Int).toNat) ((a2 : Int).toNat)).length) : Hd).2, .int .i64 x7_9.f2]) (⟨x7_9.f0, (cutL x7_9.f1 ((0 : Int).toNat) ((a2 : Int).toNat)), x7_9.f2⟩ : S70) (some 0) (by kernel_rfl) (by kernel_rfl) rfl (by kernel_rfl) hp7_9A (by have := idx_lt hx7_9; simpa only [List.length_set] using this) ⟨by kernel_rfl, by kernel_rfl, by kernel_rfl, by kernel_rfl⟩ rfl (by kernel_rfl) (fun w' hφ => ⟨((p7_14, (cutL x7_9.f1 ((0 : Int).toNat) ((a2 : Int).toNat)).length) : Hd), rfl, hφ _ (List.mem_of_getElem? (i := 0) rfl)⟩)) (fun _ => by kernel_rfl) (fun _ => ?_)
    refine D.mid (cs := [21]) [3, 4, 5, 15, 20] [16, 19] [(1, 0)] [p0_0, 0] (by kernel_rfl) (by kernel_rfl) (⟨QuAt.mk (v := .pointer (some ⟨p7_9.1, 0 + x2_2.toNat * 3, none⟩)) (some 47) (by kernel_rfl) (by kernel_rfl) (Qu.idx (t := 22) (x := .tmp 32) (y := .tmp 33) (len := x1_1.f0.length) (c := p1_1.2) (kk := .i64) (sz := 3) (by kernel_rfl) (by kernel_rfl) (by kernel_rfl) (by kernel_rfl) hx7_9a (by have := idx_lt hx7_9; simpa only [List.length_set, List.length_replicate] using this) hp7_9A), QuAt.mk (v := .pointer (some ⟨p7_9.1, 0 + x2_2.toNat * 3, none⟩)) (some 49) (by kernel_rfl) (by kernel_rfl) (Qu.idx (t := 22) (x := .tmp 35) (y := .tmp 36) (len := x1_1.f0.length) (c := p1_1.2) (kk := .i64) (sz := 3) (by kernel_rfl) (by kernel_rfl) (by kernel_rfl) (by kernel_rfl) hx7_9a (by have := idx_lt hx7_9; simpa only [List.length_set, List.length_replicate] using this) hp7_9A), trivial⟩) (by kernel_rfl) ⟨?_, trivial⟩
    refine EvStep.mk none (new := fun _ => []) ([] ++ [19]) (by kernel_rfl) (Ev.storeR (t := 3) (x := .tmp 50) (y := .tmp 46) (hh := p1_1) (m := x1_1.f0.length) (g := p7_9.1) (i := x2_2.toNat) (f := 2) (s := 1) (u := .pointer (some ⟨p7_9.1, 0 + x2_2.toNat * 3 + 2, none⟩)) (z := .int .i64 a2) (cs := [.string x7_9.f0, .slice ((p7_14, (cutL x7_9.f1 ((0 : Int).toNat) ((a2 : Int).toNat)).length) : Hd).1 (cutL x7_9.f1 ((0 : Int).toNat) ((a2 : Int).toNat)).length ((p7_14, (cutL x7_9.f1 ((0 : Int).toNat) ((a2 : Int).toNat)).length) : Hd).2, .int .i64 x7_9.f2]) (ncs := [.string x7_9.f0, .slice ((p7_14, (cutL x7_9.f1 ((0 : Int).toNat) ((a2 : Int).toNat)).length) : Hd).1 (cutL x7_9.f1 ((0 : Int).toNat) ((a2 : Int).toNat)).length ((p7_14, (cutL x7_9.f1 ((0 : Int).toNat) ((a2 : Int).toNat)).length) : Hd).2, .int .i64 a2]) (⟨x7_9.f0, (cutL x7_9.f1 ((0 : Int).toNat) ((a2 : Int).toNat)), a2⟩ : S70) (some 0) (by kernel_rfl) (by kernel_rfl) rfl (by kernel_rfl) hp7_9A (by have := idx_lt hx7_9; simpa only [List.length_set] using this) ⟨by kernel_rfl, by kernel_rfl, by kernel_rfl, by kernel_rfl⟩ rfl (by kernel_rfl) (fun w' hφ => ⟨((p7_14, (cutL x7_9.f1 ((0 : Int).toNat) ((a2 : Int).toNat)).length) : Hd), rfl, hφ _ (List.mem_of_getElem? (i := 0) rfl)⟩)) (fun _ => by kernel_rfl) (fun _ => ?_)
    refine D.fin (fr' := [(3, .pointer (some ⟨p0_0, 0, none⟩)), (6, .pointer (some ⟨p0_1, 0, none⟩))]) [] [19] [] [] [3, 6] (by kernel_rfl) (by kernel_rfl) (⟨QuAt.mk (v := .pointer (some ⟨p7_9.1, 0 + x2_2.toNat * 3, none⟩)) (some 49) (by kernel_rfl) (by kernel_rfl) (Qu.idx (t := 22) (x := .tmp 35) (y := .tmp 36) (len := x1_1.f0.length) (c := p1_1.2) (kk := .i64) (sz := 3) (by kernel_rfl) (by kernel_rfl) (by kernel_rfl) (by kernel_rfl) hx7_9a (by have := idx_lt hx7_9; simpa only [List.length_set, List.length_replicate] using this) hp7_9A), trivial⟩) (by kernel_rfl) ?_
    refine J.mono (fun w hS => hS.unpk) ?_
    refine J.renS [3, 6] (fr1 := [(3, .pointer (some ⟨p0_0, 0, none⟩)), (6, .pointer (some ⟨p0_1, 0, none⟩))]) (bx1 := [⟨p0_1, [.slice none 0 0], 24⟩, ⟨p0_0, [.slice p1_1.1 x1_1.f0.length p1_1.2], 24⟩]) (rw1 := [mkRow kd70 70 (.slice p1_1.1 x1_1.f0.length p1_1.2) ((x1_1.f0.set x2_2.toNat (⟨x7_9.f0, (cutL x7_9.f1 ((0 : Int).toNat) ((a2 : Int).toNat)), x7_9.f2⟩ : S70)).set x2_2.toNat (⟨x7_9.f0, (cutL x7_9.f1 ((0 : Int).toNat) ((a2 : Int).toNat)), a2⟩ : S70))]) (fr' := [(3, .pointer (some ⟨p0_0, 0, none⟩)), (6, .pointer (some ⟨p0_1, 0, none⟩))]) (bx' := [⟨p0_1, [.slice none 0 0], 24⟩, ⟨p0_0, [.slice p1_1.1 ((x1_1.f0.set x2_2.toNat (⟨x7_9.f0, (cutL x7_9.f1 ((0 : Int).toNat) ((a2 : Int).toNat)), x7_9.f2⟩ : S70)).set x2_2.toNat (⟨x7_9.f0, (cutL x7_9.f1 ((0 : Int).toNat) ((a2 : Int).toNat)), a2⟩ : S70)).length p1_1.2], 24⟩]) (rw' := [mkRow kd70 70 (.slice p1_1.1 ((x1_1.f0.set x2_2.toNat (⟨x7_9.f0, (cutL x7_9.f1 ((0 : Int).toNat) ((a2 : Int).toNat)), x7_9.f2⟩ : S70)).set x2_2.toNat (⟨x7_9.f0, (cutL x7_9.f1 ((0 : Int).toNat) ((a2 : Int).toNat)), a2⟩ : S70)).length p1_1.2) ((x1_1.f0.set x2_2.toNat (⟨x7_9.f0, (cutL x7_9.f1 ((0 : Int).toNat) ((a2 : Int).toNat)), x7_9.f2⟩ : S70)).set x2_2.toNat (⟨x7_9.f0, (cutL x7_9.f1 ((0 : Int).toNat) ((a2 : Int).toNat)), a2⟩ : S70))]) (by kernel_rfl) (by kernel_rfl) (by simp only [List.length_set, List.length_replicate]) ?_
    refine J.seq (by kernel_rfl) ?_
    refine J.region (by kernel_rfl) ?_
    refine O.pure 3 [(1, 0), (0, 0)] [6, 7] [p0_0, 0, p0_1, 0] (fr' := [(6, .pointer (some ⟨p0_1, 0, none⟩)), (7, .int .i64 0)]) (bx' := [⟨p0_1, [.slice p1_1.1 ((x1_1.f0.set x2_2.toNat (⟨x7_9.f0, (cutL x7_9.f1 ((0 : Int).toNat) ((a2 : Int).toNat)), x7_9.f2⟩ : S70)).set x2_2.toNat (⟨x7_9.f0, (cutL x7_9.f1 ((0 : Int).toNat) ((a2 : Int).toNat)), a2⟩ : S70)).length p1_1.2], 24⟩, ⟨p0_0, [.slice p1_1.1 ((x1_1.f0.set x2_2.toNat (⟨x7_9.f0, (cutL x7_9.f1 ((0 : Int).toNat) ((a2 : Int).toNat)), x7_9.f2⟩ : S70)).set x2_2.toNat (⟨x7_9.f0, (cutL x7_9.f1 ((0 : Int).toNat) ((a2 : Int).toNat)), a2⟩ : S70)).length p1_1.2], 24⟩]) (by kernel_rfl) ?_
    refine O.nil (by kernel_rfl) ?_
    obtain rfl := Option.some.inj H
    exact J.doneS [(0, 0)] [p0_1, 0] [] [] [0] p1_1 (vs := [.agg #[.slice p1_1.1 ((x1_1.f0.set x2_2.toNat (⟨x7_9.f0, (cutL x7_9.f1 ((0 : Int).toNat) ((a2 : Int).toNat)), x7_9.f2⟩ : S70)).set x2_2.toNat (⟨x7_9.f0, (cutL x7_9.f1 ((0 : Int).toNat) ((a2 : Int).toNat)), a2⟩ : S70)).length p1_1.2], .int .i64 0]) (by kernel_rfl) (by kernel_rfl) (by kernel_rfl) (by kernel_rfl) (by kernel_rfl) (by decide)
/-! ### haywain/ckpt.Open: function 24 -/
def ckpt_Open.f (K : Nat) (a0 : S24) : Option (S24 × Int) := (ckpt_read.f K a0).bind fun x1_1 => cond (!x1_1.2.2.2) (some ((a0, 2))) (cond (x1_1.2.1 == x1_1.2.2.1) (some ((a0, 0))) ((disk_Cut.f K a0 (⟨#[109]⟩ : ByteArray) x1_1.2.1).bind fun x6_2 => some ((x6_2.1, x6_2.2))))
set_option maxRecDepth 100000 in
set_option maxHeartbeats 1000000 in
theorem ckpt_Open.con (K : Nat) (a0 : S24) (h0 : Hd) (r : (S24 × Int)) (X : Nat → Nat → Prop) (w : World) (hS : St X w [] [] [] [] [Rd kd70 h0.1 h0.2 a0.f0] w) (H : ckpt_Open.f K a0 = some r) :
    Cn Try.prog 24 [.agg #[.slice h0.1 a0.f0.length h0.2]] X w [] (fun i : Hd => .tuple #[.agg #[.slice i.1 r.1.f0.length i.2], .int .i64 r.2]) (fun i => []) (fun i => []) (fun i => [Rd kd70 i.1 i.2 r.1.f0]) := by
 refine Cn.of Try.func24 (by kernel_rfl) hS ?_
 unfold ckpt_Open.f at H
 refine J.seq (by kernel_rfl) ?_
 refine J.region (by kernel_rfl) ?_
 refine O.e (some 1) (Ev.box (t := 24) (x := .tmp 0) (v := .agg #[.slice h0.1 a0.f0.length h0.2]) (by kernel_rfl) (by kernel_rfl)) (by kernel_rfl) (fun p0_0 => ?_)
 refine O.e (some 2) (Ev.alloc (t := 24) (z := .agg #[.slice none 0 0]) (by kernel_rfl) (by kernel_rfl)) (by kernel_rfl) (fun p0_1 => ?_)
 refine O.pure 1 [] [1, 2] [] (fr' := [(1, .pointer (some ⟨p0_0, 0, none⟩)), (2, .pointer (some ⟨p0_1, 0, none⟩))]) (bx' := [⟨p0_1, [.slice none 0 0], 24⟩, ⟨p0_0, [.slice h0.1 a0.f0.length h0.2], 24⟩]) (by kernel_rfl) ?_
 refine O.nil (by kernel_rfl) ?_
 refine J.seq (by kernel_rfl) ?_
 obtain ⟨x1_1, hx1_1, H⟩ := bindE H
 refine J.region (by kernel_rfl) ?_
 refine O.pure 1 [(1, 0)] [1, 2, 9] [p0_0, 0] (fr' := [(1, .pointer (some ⟨p0_0, 0, none⟩)), (2, .pointer (some ⟨p0_1, 0, none⟩)), (9, .agg #[.slice h0.1 a0.f0.length h0.2])]) (bx' := [⟨p0_1, [.slice none 0 0], 24⟩, ⟨p0_0, [.slice h0.1 a0.f0.length h0.2], 24⟩]) (by kernel_rfl) ?_
 refine O.e (some 10) (Ev.call0 (xs := [.tmp 9]) [0] (by kernel_rfl) (by kernel_rfl) (fun w hS => ckpt_read.con K a0 h0  _ _ w hS hx1_1)) (by kernel_rfl) (fun _ => ?_)
 refine O.pure 9 [] [1, 2, 5, 6, 7] [] (fr' := [(1, .pointer (some ⟨p0_0, 0, none⟩)), (2, .pointer (some ⟨p0_1, 0, none⟩)), (5, .int .i64 x1_1.2.1), (6, .int .i64 x1_1.2.2.1), (7, .bool x1_1.2.2.2)]) (bx' := [⟨p0_1, [.slice none 0 0], 24⟩, ⟨p0_0, [.slice h0.1 a0.f0.length h0.2], 24⟩]) (by kernel_rfl) ?_
 refine O.nil (by kernel_rfl) ?_
 refine J.seq (by kernel_rfl) ?_
 refine J.seq (by kernel_rfl) ?_
 refine J.region (by kernel_rfl) ?_
 refine O.pure 2 [] [1, 2, 5, 6, 16] [] (fr' := [(1, .pointer (some ⟨p0_0, 0, none⟩)), (2, .pointer (some ⟨p0_1, 0, none⟩)), (5, .int .i64 x1_1.2.1), (6, .int .i64 x1_1.2.2.1), (16, .bool (!x1_1.2.2.2))]) (bx' := [⟨p0_1, [.slice none 0 0], 24⟩, ⟨p0_0, [.slice h0.1 a0.f0.length h0.2], 24⟩]) (by kernel_rfl) ?_
 refine O.nil (by kernel_rfl) ?_
 rcases condE H with ⟨hc1, H⟩ | ⟨hc1, H⟩
 ·refine J.condT (x := .tmp 16) (t := (!x1_1.2.2.2)) (by kernel_rfl) (by kernel_rfl) hc1 ?_
  refine J.seq (by kernel_rfl) ?_
  refine J.region (by kernel_rfl) ?_
  refine O.pure 3 [(1, 0), (0, 0)] [2, 3] [p0_0, 0, p0_1, 0] (fr' := [(2, .pointer (some ⟨p0_1, 0, none⟩)), (3, .int .i64 2)]) (bx' := [⟨p0_1, [.slice h0.1 a0.f0.length h0.2], 24⟩, ⟨p0_0, [.slice h0.1 a0.f0.length h0.2], 24⟩]) (by kernel_rfl) ?_
  refine O.nil (by kernel_rfl) ?_
  obtain rfl := Option.some.inj H
  exact J.doneS [(0, 0)] [p0_1, 0] [0] [] [] h0 (vs := [.agg #[.slice h0.1 a0.f0.length h0.2], .int .i64 2]) (by kernel_rfl) (by kernel_rfl) (by kernel_rfl) (by kernel_rfl) (by kernel_rfl) (by decide)
 ·refine J.condF (x := .tmp 16) (t := (!x1_1.2.2.2)) (by kernel_rfl) (by kernel_rfl) hc1 ?_
  refine J.skip (by kernel_rfl) ?_
  refine J.seq (by kernel_rfl) ?_
  refine J.seq (by kernel_rfl) ?_
  refine J.region (by kernel_rfl) ?_
  refine O.pure 3 [] [1, 2, 5, 20] [] (fr' := [(1, .pointer (some ⟨p0_0, 0, none⟩)), (2, .pointer (some ⟨p0_1, 0, none⟩)), (5, .int .i64 x1_1.2.1), (20, .bool (x1_1.2.1 == x1_1.2.2.1))]) (bx' := [⟨p0_1, [.slice none 0 0], 24⟩, ⟨p0_0, [.slice h0.1 a0.f0.length h0.2], 24⟩]) (by kernel_rfl) ?_
  refine O.nil (by kernel_rfl) ?_
  rcases condE H with ⟨hc2, H⟩ | ⟨hc2, H⟩
  ·refine J.condT (x := .tmp 20) (t := (x1_1.2.1 == x1_1.2.2.1)) (by kernel_rfl) (by kernel_rfl) hc2 ?_
   refine J.seq (by kernel_rfl) ?_
   refine J.region (by kernel_rfl) ?_
   refine O.pure 3 [(1, 0), (0, 0)] [2, 3] [p0_0, 0, p0_1, 0] (fr' := [(2, .pointer (some ⟨p0_1, 0, none⟩)), (3, .int .i64 0)]) (bx' := [⟨p0_1, [.slice h0.1 a0.f0.length h0.2], 24⟩, ⟨p0_0, [.slice h0.1 a0.f0.length h0.2], 24⟩]) (by kernel_rfl) ?_
   refine O.nil (by kernel_rfl) ?_
   obtain rfl := Option.some.inj H
   exact J.doneS [(0, 0)] [p0_1, 0] [0] [] [] h0 (vs := [.agg #[.slice h0.1 a0.f0.length h0.2], .int .i64 0]) (by kernel_rfl) (by kernel_rfl) (by kernel_rfl) (by kernel_rfl) (by kernel_rfl) (by decide)
  ·refine J.condF (x := .tmp 20) (t := (x1_1.2.1 == x1_1.2.2.1)) (by kernel_rfl) (by kernel_rfl) hc2 ?_
   refine J.skip (by kernel_rfl) ?_
   refine J.seq (by kernel_rfl) ?_
   obtain ⟨x6_2, hx6_2, H⟩ := bindE H
   refine J.region (by kernel_rfl) ?_
   refine O.pure 2 [(1, 0)] [2, 22, 23] [p0_0, 0] (fr' := [(2, .pointer (some ⟨p0_1, 0, none⟩)), (22, .agg #[.slice h0.1 a0.f0.length h0.2]), (23, .int .i64 x1_1.2.1)]) (bx' := [⟨p0_1, [.slice none 0 0], 24⟩, ⟨p0_0, [.slice h0.1 a0.f0.length h0.2], 24⟩]) (by kernel_rfl) ?_
   refine O.e (some 24) (Ev.call0 (xs := [.tmp 22, .const (.string (⟨#[109]⟩ : ByteArray)), .tmp 23]) [0] (by kernel_rfl) (by kernel_rfl) (fun w hS => disk_Cut.con K a0 (⟨#[109]⟩ : ByteArray) x1_1.2.1 h0  _ _ w hS hx6_2)) (by kernel_rfl) (fun p6_2 => ?_)
   refine O.pure 4 [(0, 0)] [2, 3] [p0_1, 0] (fr' := [(2, .pointer (some ⟨p0_1, 0, none⟩)), (3, .int .i64 x6_2.2)]) (bx' := [⟨p0_1, [.slice p6_2.1 x6_2.1.f0.length p6_2.2], 24⟩, ⟨p0_0, [.slice h0.1 a0.f0.length h0.2], 24⟩]) (by kernel_rfl) ?_
   refine O.nil (by kernel_rfl) ?_
   obtain rfl := Option.some.inj H
   refine J.mono (fun w hS => hS.freezeH (h := p6_2) (xs := x6_2.1.f0)) ?_
   exact J.doneS [(0, 0)] [p0_1, 0] [0] [] [] p6_2 (vs := [.agg #[.slice p6_2.1 x6_2.1.f0.length p6_2.2], .int .i64 x6_2.2]) (by kernel_rfl) (by kernel_rfl) (by kernel_rfl) (by kernel_rfl) (by kernel_rfl) (by decide)
/-! ### haywain/haywainref03.Digits: function 40 -/
def haywainref03_Digits.l1 (K : Nat) : Nat → (Int × ByteArray) → Option ByteArray
  | 0, _ => none
  | k + 1, s1 => (remO s1.1 10).bind fun z2_1 => (catO (strOfNums ([(IntKind.wrap .u8 (IntKind.wrap .i64 (48 + (s1.1.tmod 10))))] : List Int)) s1.2).bind fun z2_7 => (divO .i64 s1.1 10).bind fun z3_1 => cond ((IntKind.wrap .i64 (s1.1.tdiv 10)) == 0) (some (((strOfNums ([(IntKind.wrap .u8 (IntKind.wrap .i64 (48 + (s1.1.tmod 10))))] : List Int)) ++ s1.2))) (haywainref03_Digits.l1 K k ((IntKind.wrap .i64 (s1.1.tdiv 10)), ((strOfNums ([(IntKind.wrap .u8 (IntKind.wrap .i64 (48 + (s1.1.tmod 10))))] : List Int)) ++ s1.2)))
def haywainref03_Digits.f (K : Nat) (a0 : Int) : Option ByteArray := haywainref03_Digits.l1 K K (a0, (⟨#[]⟩ : ByteArray))
set_option maxRecDepth 100000 in
set_option maxHeartbeats 1000000 in
theorem haywainref03_Digits.con (K : Nat) (a0 : Int) (r : ByteArray) (X : Nat → Nat → Prop) (w : World) (hS : St X w [] [] [] [] [] w) (H : haywainref03_Digits.f K a0 = some r) :
    Cn Try.prog 40 [.int .i64 a0] X w [] (fun i : Unit => .string r) (fun i => []) (fun i => []) (fun i => []) := by
 refine Cn.of Try.func40 (by kernel_rfl) hS ?_
 unfold haywainref03_Digits.f at H
 refine J.seq (by kernel_rfl) ?_
 refine J.region (by kernel_rfl) ?_
 refine O.pure 1 [] [0] [] (fr' := [(0, .int .i64 a0)]) (bx' := []) (by kernel_rfl) ?_
 refine O.nil (by kernel_rfl) ?_
 refine J.seq (by kernel_rfl) ?_
 refine J.region (by kernel_rfl) ?_
 refine O.pure 1 [] [0, 3] [] (fr' := [(0, .int .i64 a0), (3, .string (⟨#[]⟩ : ByteArray))]) (bx' := []) (by kernel_rfl) ?_
 refine O.nil (by kernel_rfl) ?_
 refine J.block (id := 0) (by kernel_rfl) ?_
 refine J.loopI (σ := Int × ByteArray) (γ := Unit) (f := fun m_ s_ => haywainref03_Digits.l1 K m_ s_) (fun s1 g1 => [(0, .int .i64 s1.1), (3, .string s1.2)]) (fun s1 g1 => St X w [] [] [] [] []) K (a0, (⟨#[]⟩ : ByteArray)) () (by kernel_rfl) H (fun _ => rfl) (fun m_ s1 H ih1 g1 => ?_) (fun h_ => ?_)
 ·unfold haywainref03_Digits.l1 at H
  refine J.block (id := 1) (by kernel_rfl) ?_
  refine J.seq (by kernel_rfl) ?_
  obtain ⟨z2_1, hz2_1, H⟩ := bindE H
  have hz2_1a := (remE hz2_1).1
  obtain ⟨z2_7, hz2_7, H⟩ := bindE H
  have hz2_7a := catE hz2_7
  refine J.region (by kernel_rfl) ?_
  refine O.pure 1 [] [0, 3, 4] [] (fr' := [(0, .int .i64 s1.1), (3, .string s1.2), (4, .int .i64 s1.1)]) (bx' := []) (by kernel_rfl) ?_
  refine O.q (v := .int .i64 (s1.1.tmod 10)) (some 5) (Qu.rem (t := 2) (t' := 2) (x := .tmp 4) (y := .const (.int .i64 10)) (a := s1.1) (b := 10) (by kernel_rfl) (by kernel_rfl) (by kernel_rfl) hz2_1a) (by kernel_rfl) ?_
  refine O.pure 2 [] [0, 3, 7] [] (fr' := [(0, .int .i64 s1.1), (3, .string s1.2), (7, .int .u8 (IntKind.wrap .u8 (IntKind.wrap .i64 (48 + (s1.1.tmod 10)))))]) (bx' := []) (by kernel_rfl) ?_
  refine O.e (some 8) (Ev.lit (t := 27) (len := 1) (parts := #[(0, .tmp 7)]) (ps := [(0, .int .u8 (IntKind.wrap .u8 (IntKind.wrap .i64 (48 + (s1.1.tmod 10)))))]) (cs := [.int .u8 (IntKind.wrap .u8 (IntKind.wrap .i64 (48 + (s1.1.tmod 10))))]) (e := 5) (Kd.int .u8) ([(IntKind.wrap .u8 (IntKind.wrap .i64 (48 + (s1.1.tmod 10))))] : List Int) (by kernel_rfl) (by kernel_rfl) (by kernel_rfl) (by kernel_rfl) (by kernel_rfl) (by decide) (fun w' hφ => (Els.cons (c := [.int .u8 (IntKind.wrap .u8 (IntKind.wrap .i64 (48 + (s1.1.tmod 10))))]) (rfl) (Els.nil _ _ _)))) (by kernel_rfl) (fun p2_4 => ?_)
  refine O.mono (fun w hS => hS.freezeH (h := ((some ⟨p2_4, 0, none⟩, 1) : Hd)) (xs := ([(IntKind.wrap .u8 (IntKind.wrap .i64 (48 + (s1.1.tmod 10))))] : List Int))) ?_
  refine O.q (v := .string (strOfNums ([(IntKind.wrap .u8 (IntKind.wrap .i64 (48 + (s1.1.tmod 10))))] : List Int))) (some 9) (Qu.str (t := 27) (u := 9) (x := .tmp 8) (h := ((some ⟨p2_4, 0, none⟩, 1) : Hd)) (xs := ([(IntKind.wrap .u8 (IntKind.wrap .i64 (48 + (s1.1.tmod 10))))] : List Int)) 0 (by kernel_rfl) (by kernel_rfl) (by kernel_rfl) (by kernel_rfl) rfl) (by kernel_rfl) ?_
  refine O.pure 1 [] [0, 3, 9, 10] [] (fr' := [(0, .int .i64 s1.1), (3, .string s1.2), (9, .string (strOfNums ([(IntKind.wrap .u8 (IntKind.wrap .i64 (48 + (s1.1.tmod 10))))] : List Int))), (10, .string s1.2)]) (bx' := []) (by kernel_rfl) ?_
  refine O.q (v := .string ((strOfNums ([(IntKind.wrap .u8 (IntKind.wrap .i64 (48 + (s1.1.tmod 10))))] : List Int)) ++ s1.2)) (some 11) (Qu.cat (t := 9) (t' := 9) (x := .tmp 9) (y := .tmp 10) (a := (strOfNums ([(IntKind.wrap .u8 (IntKind.wrap .i64 (48 + (s1.1.tmod 10))))] : List Int))) (b := s1.2) (by kernel_rfl) (by kernel_rfl) (by kernel_rfl) hz2_7a) (by kernel_rfl) ?_
  refine O.pure 1 [] [0, 3] [] (fr' := [(0, .int .i64 s1.1), (3, .string ((strOfNums ([(IntKind.wrap .u8 (IntKind.wrap .i64 (48 + (s1.1.tmod 10))))] : List Int)) ++ s1.2))]) (bx' := []) (by kernel_rfl) ?_
  refine O.nil (by kernel_rfl) ?_
  refine J.seq (by kernel_rfl) ?_
  obtain ⟨z3_1, hz3_1, H⟩ := bindE H
  have hz3_1a := (divE hz3_1).1
  refine J.region (by kernel_rfl) ?_
  refine O.pure 1 [] [0, 3, 12] [] (fr' := [(0, .int .i64 s1.1), (3, .string ((strOfNums ([(IntKind.wrap .u8 (IntKind.wrap .i64 (48 + (s1.1.tmod 10))))] : List Int)) ++ s1.2)), (12, .int .i64 s1.1)]) (bx' := []) (by kernel_rfl) ?_
  refine O.q (v := .int .i64 (IntKind.wrap .i64 (s1.1.tdiv 10))) (some 13) (Qu.div (t := 2) (t' := 2) (x := .tmp 12) (y := .const (.int .i64 10)) (a := s1.1) (b := 10) (by kernel_rfl) (by kernel_rfl) (by kernel_rfl) hz3_1a) (by kernel_rfl) ?_
  refine O.pure 1 [] [0, 3] [] (fr' := [(0, .int .i64 (IntKind.wrap .i64 (s1.1.tdiv 10))), (3, .string ((strOfNums ([(IntKind.wrap .u8 (IntKind.wrap .i64 (48 + (s1.1.tmod 10))))] : List Int)) ++ s1.2))]) (bx' := []) (by kernel_rfl) ?_
  refine O.nil (by kernel_rfl) ?_
  refine J.seq (by kernel_rfl) ?_
  refine J.region (by kernel_rfl) ?_
  refine O.pure 2 [] [0, 3, 15] [] (fr' := [(0, .int .i64 (IntKind.wrap .i64 (s1.1.tdiv 10))), (3, .string ((strOfNums ([(IntKind.wrap .u8 (IntKind.wrap .i64 (48 + (s1.1.tmod 10))))] : List Int)) ++ s1.2)), (15, .bool ((IntKind.wrap .i64 (s1.1.tdiv 10)) == 0))]) (bx' := []) (by kernel_rfl) ?_
  refine O.nil (by kernel_rfl) ?_
  rcases condE H with ⟨hc4, H⟩ | ⟨hc4, H⟩
  ·refine J.condT (x := .tmp 15) (t := ((IntKind.wrap .i64 (s1.1.tdiv 10)) == 0)) (by kernel_rfl) (by kernel_rfl) hc4 ?_
   refine J.seq (by kernel_rfl) ?_
   refine J.region (by kernel_rfl) ?_
   refine O.pure 2 [] [2] [] (fr' := [(2, .string ((strOfNums ([(IntKind.wrap .u8 (IntKind.wrap .i64 (48 + (s1.1.tmod 10))))] : List Int)) ++ s1.2))]) (bx' := []) (by kernel_rfl) ?_
   refine O.nil (by kernel_rfl) ?_
   obtain rfl := Option.some.inj H
   exact J.doneS [] [] [] [] [] () (vs := [.string ((strOfNums ([(IntKind.wrap .u8 (IntKind.wrap .i64 (48 + (s1.1.tmod 10))))] : List Int)) ++ s1.2)]) (by kernel_rfl) (by kernel_rfl) (by kernel_rfl) (by kernel_rfl) (by kernel_rfl) (by decide)
  ·refine J.condF (x := .tmp 15) (t := ((IntKind.wrap .i64 (s1.1.tdiv 10)) == 0)) (by kernel_rfl) (by kernel_rfl) hc4 ?_
   refine J.skip (by kernel_rfl) ?_
   refine J.out ?_
   exact J.conv2 [0, 3] [] [] [] (by kernel_rfl) (by kernel_rfl) (by kernel_rfl) (by kernel_rfl) (by decide) (ih1 ((IntKind.wrap .i64 (s1.1.tdiv 10)), ((strOfNums ([(IntKind.wrap .u8 (IntKind.wrap .i64 (48 + (s1.1.tmod 10))))] : List Int)) ++ s1.2)) () H)
 ·exact J.conv2 [0, 3] [] [] [] (by kernel_rfl) (by kernel_rfl) (by kernel_rfl) (by kernel_rfl) (by decide) h_
end Go.Proofs.Ytkcpbehgjbionaa.G
