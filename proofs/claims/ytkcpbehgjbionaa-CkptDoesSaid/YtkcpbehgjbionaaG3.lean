/- Functions of the program as plain Lean, with their contracts (part 3); printed by a program of this session. -/
import Derived.Test.YtkcpbehgjbionaaG2
set_option linter.unusedVariables false
set_option linter.unusedSimpArgs false
namespace Go.Proofs.Ytkcpbehgjbionaa.G
open Go Go.RowKit Go.Hw
/-! ### haywain/haywainref13.Drop: function 68 -/
def haywainref13_Drop.l2 (K : Nat) (a1 : ByteArray) (x1_1 : List S85) : Nat → ((List S85) × Int) → Option ((List S85) × Int)
  | 0, _ => none
  | k + 1, s2 => cond (decide (s2.2 < (x1_1.length : Int))) ((idxO x1_1 s2.2).bind fun x8_2 => cond (!(x8_2.f0.toList == a1.toList)) ((idxO x1_1 s2.2).bind fun x9_3 => (appO 48 s2.1 ([x9_3] : List S85)).bind fun y9_6 => haywainref13_Drop.l2 K a1 x1_1 k ((s2.1 ++ ([x9_3] : List S85)), (IntKind.wrap .i64 (s2.2 + 1)))) (haywainref13_Drop.l2 K a1 x1_1 k (s2.1, (IntKind.wrap .i64 (s2.2 + 1))))) (some ((s2.1, 0)))
def haywainref13_Drop.f (K : Nat) (a0 : List S85) (a1 : ByteArray) : Option ((List S85) × Int) := (haywainref13_Good.f K a0).bind fun x1_1 => (haywainref13_Has.f K x1_1 a1).bind fun x2_2 => cond (!x2_2) (some ((x1_1, 4))) (haywainref13_Drop.l2 K a1 x1_1 K (([] : List S85), 0))
set_option maxRecDepth 100000 in
set_option maxHeartbeats 1000000 in
theorem haywainref13_Drop.con (K : Nat) (a0 : List S85) (a1 : ByteArray) (h0 : Hd) (r : ((List S85) × Int)) (X : Nat → Nat → Prop) (w : World) (hS : St X w [] [] [] [] [Rd kd85 h0.1 h0.2 a0] w) (H : haywainref13_Drop.f K a0 a1 = some r) :
    Cn Try.prog 68 [.slice h0.1 a0.length h0.2, .string a1] X w [] (fun i : Hd => .tuple #[.slice i.1 r.1.length i.2, .int .i64 r.2]) (fun i => []) (fun i => []) (fun i => [Rd kd85 i.1 i.2 r.1]) := by
 refine Cn.of Try.func68 (by kernel_rfl) hS ?_
 unfold haywainref13_Drop.f at H
 refine J.seq (by kernel_rfl) ?_
 refine J.region (by kernel_rfl) ?_
 refine O.pure 2 [] [0, 1] [] (fr' := [(0, .slice h0.1 a0.length h0.2), (1, .string a1)]) (bx' := []) (by kernel_rfl) ?_
 refine O.nil (by kernel_rfl) ?_
 refine J.seq (by kernel_rfl) ?_
 obtain ⟨x1_1, hx1_1, H⟩ := bindE H
 refine J.region (by kernel_rfl) ?_
 refine O.pure 1 [] [0, 1, 8] [] (fr' := [(0, .slice h0.1 a0.length h0.2), (1, .string a1), (8, .slice h0.1 a0.length h0.2)]) (bx' := []) (by kernel_rfl) ?_
 refine O.e (some 9) (Ev.call0 (xs := [.tmp 8]) [0] (by kernel_rfl) (by kernel_rfl) (fun w hS => haywainref13_Good.con K a0 h0  _ _ w hS hx1_1)) (by kernel_rfl) (fun p1_1 => ?_)
 refine O.pure 1 [] [0, 1] [] (fr' := [(0, .slice p1_1.1 x1_1.length p1_1.2), (1, .string a1)]) (bx' := []) (by kernel_rfl) ?_
 refine O.nil (by kernel_rfl) ?_
 refine J.seq (by kernel_rfl) ?_
 refine J.seq (by kernel_rfl) ?_
 obtain ⟨x2_2, hx2_2, H⟩ := bindE H
 refine J.region (by kernel_rfl) ?_
 refine O.pure 2 [] [0, 1, 10, 11] [] (fr' := [(0, .slice p1_1.1 x1_1.length p1_1.2), (1, .string a1), (10, .slice p1_1.1 x1_1.length p1_1.2), (11, .string a1)]) (bx' := []) (by kernel_rfl) ?_
 refine O.e (some 12) (Ev.call0 (xs := [.tmp 10, .tmp 11]) [0] (by kernel_rfl) (by kernel_rfl) (fun w hS => haywainref13_Has.con K x1_1 a1 p1_1  _ _ w hS hx2_2)) (by kernel_rfl) (fun _ => ?_)
 refine O.pure 1 [] [0, 1, 13] [] (fr' := [(0, .slice p1_1.1 x1_1.length p1_1.2), (1, .string a1), (13, .bool (!x2_2))]) (bx' := []) (by kernel_rfl) ?_
 refine O.nil (by kernel_rfl) ?_
 rcases condE H with ⟨hc1, H⟩ | ⟨hc1, H⟩
 ·refine J.condT (x := .tmp 13) (t := (!x2_2)) (by kernel_rfl) (by kernel_rfl) hc1 ?_
  refine J.seq (by kernel_rfl) ?_
  refine J.region (by kernel_rfl) ?_
  refine O.pure 3 [] [4, 5] [] (fr' := [(4, .slice p1_1.1 x1_1.length p1_1.2), (5, .int .i64 4)]) (bx' := []) (by kernel_rfl) ?_
  refine O.nil (by kernel_rfl) ?_
  obtain rfl := Option.some.inj H
  exact J.doneS [] [] [0] [] [] p1_1 (vs := [.slice p1_1.1 x1_1.length p1_1.2, .int .i64 4]) (by kernel_rfl) (by kernel_rfl) (by kernel_rfl) (by kernel_rfl) (by kernel_rfl) (by decide)
 ·refine J.condF (x := .tmp 13) (t := (!x2_2)) (by kernel_rfl) (by kernel_rfl) hc1 ?_
  refine J.skip (by kernel_rfl) ?_
  refine J.seq (by kernel_rfl) ?_
  refine J.region (by kernel_rfl) ?_
  refine O.pure 1 [] [0, 1, 6] [] (fr' := [(0, .slice p1_1.1 x1_1.length p1_1.2), (1, .string a1), (6, .slice none 0 0)]) (bx' := []) (by kernel_rfl) ?_
  refine O.nil (by kernel_rfl) ?_
  refine J.seq (by kernel_rfl) ?_
  refine J.seq (by kernel_rfl) ?_
  refine J.region (by kernel_rfl) ?_
  refine O.pure 1 [] [0, 1, 6, 7] [] (fr' := [(0, .slice p1_1.1 x1_1.length p1_1.2), (1, .string a1), (6, .slice none 0 0), (7, .int .i64 0)]) (bx' := []) (by kernel_rfl) ?_
  refine O.nil (by kernel_rfl) ?_
  refine J.block (id := 0) (by kernel_rfl) ?_
  refine J.loopI (σ := (List S85) × Int) (γ := Hd) (f := fun m_ s_ => haywainref13_Drop.l2 K a1 x1_1 m_ s_) (fun s2 g2 => [(0, .slice p1_1.1 x1_1.length p1_1.2), (1, .string a1), (6, .slice g2.1 s2.1.length g2.2), (7, .int .i64 s2.2)]) (fun s2 g2 => St X w [] [] [mkRow kd85 85 (.slice g2.1 s2.1.length g2.2) s2.1] [] [Rd kd85 p1_1.1 p1_1.2 x1_1, Rd kd85 h0.1 h0.2 a0]) K (([] : List S85), 0) (none, 0) (by kernel_rfl) H (fun _ => rfl) (fun m_ s2 H ih2 g2 => ?_) (fun h_ => ?_)
  ·unfold haywainref13_Drop.l2 at H
   refine J.seq (by kernel_rfl) ?_
   refine J.seq (by kernel_rfl) ?_
   refine J.region (by kernel_rfl) ?_
   refine O.pure 4 [] [0, 1, 6, 7, 18] [] (fr' := [(0, .slice p1_1.1 x1_1.length p1_1.2), (1, .string a1), (6, .slice g2.1 s2.1.length g2.2), (7, .int .i64 s2.2), (18, .bool (decide (s2.2 < (x1_1.length : Int))))]) (bx' := []) (by kernel_rfl) ?_
   refine O.nil (by kernel_rfl) ?_
   rcases condE H with ⟨hc7, H⟩ | ⟨hc7, H⟩
   ·refine J.condT (x := .tmp 18) (t := (decide (s2.2 < (x1_1.length : Int)))) (by kernel_rfl) (by kernel_rfl) hc7 ?_
    refine J.skip (by kernel_rfl) ?_
    refine J.seq (by kernel_rfl) ?_
    refine J.block (id := 1) (by kernel_rfl) ?_
    refine J.seq (by kernel_rfl) ?_
    obtain ⟨x8_2, hx8_2, H⟩ := bindE H
    obtain ⟨hx8_2a, hx8_2⟩ := idxE hx8_2
    refine J.region (by kernel_rfl) ?_
    refine O.pure 2 [] [0, 1, 6, 7, 21, 22] [] (fr' := [(0, .slice p1_1.1 x1_1.length p1_1.2), (1, .string a1), (6, .slice g2.1 s2.1.length g2.2), (7, .int .i64 s2.2), (21, .slice p1_1.1 x1_1.length p1_1.2), (22, .int .i64 s2.2)]) (bx' := []) (by kernel_rfl) ?_
    refine O.open (d := kd85) (h := p1_1) (i := s2.2) 0 rfl hx8_2 (op85 _) (fun p8_2 hp8_2A => ?_)
    refine O.q (v := .pointer (some ⟨p8_2.1, p8_2.2.1 + s2.2.toNat * 3, none⟩)) (some 23) (Qu.idx (t := 33) (x := .tmp 21) (y := .tmp 22) (c := p1_1.2) (kk := .i64) (sz := 3) (by kernel_rfl) (by kernel_rfl) (by kernel_rfl) (by kernel_rfl) hx8_2a (idx_lt hx8_2) hp8_2A) (by kernel_rfl) ?_
    refine O.pure 4 [(0, 0)] [0, 1, 6, 7, 27] [p8_2.1, p8_2.2.1 + s2.2.toNat * 3] (fr' := [(0, .slice p1_1.1 x1_1.length p1_1.2), (1, .string a1), (6, .slice g2.1 s2.1.length g2.2), (7, .int .i64 s2.2), (27, .bool (!(x8_2.f0.toList == a1.toList)))]) (bx' := []) (by kernel_rfl) ?_
    refine O.nil (by kernel_rfl) ?_
    rcases condE H with ⟨hc8, H⟩ | ⟨hc8, H⟩
    ·refine J.condT (x := .tmp 27) (t := (!(x8_2.f0.toList == a1.toList))) (by kernel_rfl) (by kernel_rfl) hc8 ?_
     obtain ⟨x9_3, hx9_3, H⟩ := bindE H
     obtain ⟨hx9_3a, hx9_3⟩ := idxE hx9_3
     obtain ⟨y9_6, hy9_6, H⟩ := bindE H
     have hy9_6a := (appE hy9_6).1
     refine J.region (by kernel_rfl) ?_
     refine O.pure 3 [] [0, 1, 6, 7, 28, 29, 30] [] (fr' := [(0, .slice p1_1.1 x1_1.length p1_1.2), (1, .string a1), (6, .slice g2.1 s2.1.length g2.2), (7, .int .i64 s2.2), (28, .slice g2.1 s2.1.length g2.2), (29, .slice p1_1.1 x1_1.length p1_1.2), (30, .int .i64 s2.2)]) (bx' := []) (by kernel_rfl) ?_
     refine O.open (d := kd85) (h := p1_1) (i := s2.2) 1 rfl hx9_3 (op85 _) (fun p9_3 hp9_3A => ?_)
     refine O.q (v := .pointer (some ⟨p9_3.1, p9_3.2.1 + s2.2.toNat * 3, none⟩)) (some 31) (Qu.idx (t := 33) (x := .tmp 29) (y := .tmp 30) (c := p1_1.2) (kk := .i64) (sz := 3) (by kernel_rfl) (by kernel_rfl) (by kernel_rfl) (by kernel_rfl) hx9_3a (idx_lt hx9_3) hp9_3A) (by kernel_rfl) ?_
     refine O.pure 1 [(0, 0)] [0, 1, 6, 7, 28, 32] [p9_3.1, p9_3.2.1 + s2.2.toNat * 3] (fr' := [(0, .slice p1_1.1 x1_1.length p1_1.2), (1, .string a1), (6, .slice g2.1 s2.1.length g2.2), (7, .int .i64 s2.2), (28, .slice g2.1 s2.1.length g2.2), (32, .agg #[.string x9_3.f0, .slice p9_3.2.2.1 x9_3.f1.length p9_3.2.2.2, .int .i64 x9_3.f2])]) (bx' := []) (by kernel_rfl) ?_
     refine O.e (some 33) (Ev.lit (t := 33) (len := 1) (parts := #[(0, .tmp 32)]) (ps := [(0, .agg #[.string x9_3.f0, .slice p9_3.2.2.1 x9_3.f1.length p9_3.2.2.2, .int .i64 x9_3.f2])]) (cs := [.string x9_3.f0, .slice p9_3.2.2.1 x9_3.f1.length p9_3.2.2.2, .int .i64 x9_3.f2]) (e := 85) kd85 ([x9_3] : List S85) (by kernel_rfl) (by kernel_rfl) (by kernel_rfl) (by kernel_rfl) (by kernel_rfl) (by decide) (fun w' hφ => (Els.cons (c := [.string x9_3.f0, .slice p9_3.2.2.1 x9_3.f1.length p9_3.2.2.2, .int .i64 x9_3.f2]) (⟨p9_3.2.2, rfl, hφ _ (List.mem_of_getElem? (i := 0) rfl)⟩) (Els.nil _ _ _)))) (by kernel_rfl) (fun p9_5 => ?_)
     refine O.e (some 34) (Ev.appLit (x := .tmp 28) (y := .tmp 33) (t := 33) (bytes := 48) (by kernel_rfl) (by kernel_rfl) (by kernel_rfl) (by kernel_rfl) (by kernel_rfl) (by decide) hy9_6a) (by kernel_rfl) (fun p9_6 => ?_)
     refine O.pure 1 [] [0, 1, 6, 7] [] (fr' := [(0, .slice p1_1.1 x1_1.length p1_1.2), (1, .string a1), (6, .slice p9_6.1 (s2.1 ++ ([x9_3] : List S85)).length p9_6.2), (7, .int .i64 s2.2)]) (bx' := []) (by kernel_rfl) ?_
     refine O.nil (by kernel_rfl) ?_
     refine J.out ?_
     refine J.region (by kernel_rfl) ?_
     refine O.pure 3 [] [0, 1, 6, 7] [] (fr' := [(0, .slice p1_1.1 x1_1.length p1_1.2), (1, .string a1), (6, .slice p9_6.1 (s2.1 ++ ([x9_3] : List S85)).length p9_6.2), (7, .int .i64 (IntKind.wrap .i64 (s2.2 + 1)))]) (bx' := []) (by kernel_rfl) ?_
     refine O.nil (by kernel_rfl) ?_
     exact J.conv2 [0, 1, 6, 7] [2, 3] [] [0] (by kernel_rfl) (by kernel_rfl) (by kernel_rfl) (by kernel_rfl) (by decide) (ih2 ((s2.1 ++ ([x9_3] : List S85)), (IntKind.wrap .i64 (s2.2 + 1))) p9_6 H)
    ·refine J.condF (x := .tmp 27) (t := (!(x8_2.f0.toList == a1.toList))) (by kernel_rfl) (by kernel_rfl) hc8 ?_
     refine J.skip (by kernel_rfl) ?_
     refine J.out ?_
     refine J.region (by kernel_rfl) ?_
     refine O.pure 3 [] [0, 1, 6, 7] [] (fr' := [(0, .slice p1_1.1 x1_1.length p1_1.2), (1, .string a1), (6, .slice g2.1 s2.1.length g2.2), (7, .int .i64 (IntKind.wrap .i64 (s2.2 + 1)))]) (bx' := []) (by kernel_rfl) ?_
     refine O.nil (by kernel_rfl) ?_
     exact J.conv2 [0, 1, 6, 7] [1, 2] [] [0] (by kernel_rfl) (by kernel_rfl) (by kernel_rfl) (by kernel_rfl) (by decide) (ih2 (s2.1, (IntKind.wrap .i64 (s2.2 + 1))) g2 H)
   ·refine J.condF (x := .tmp 18) (t := (decide (s2.2 < (x1_1.length : Int)))) (by kernel_rfl) (by kernel_rfl) hc7 ?_
    refine J.exit (id := 0) (by kernel_rfl) rfl ?_
    refine J.seq (by kernel_rfl) ?_
    refine J.region (by kernel_rfl) ?_
    refine O.pure 3 [] [4, 5] [] (fr' := [(4, .slice g2.1 s2.1.length g2.2), (5, .int .i64 0)]) (bx' := []) (by kernel_rfl) ?_
    refine O.nil (by kernel_rfl) ?_
    obtain rfl := Option.some.inj H
    refine J.mono (fun w hS => hS.freezeH (h := g2) (xs := s2.1)) ?_
    exact J.doneS [] [] [0] [] [] g2 (vs := [.slice g2.1 s2.1.length g2.2, .int .i64 0]) (by kernel_rfl) (by kernel_rfl) (by kernel_rfl) (by kernel_rfl) (by kernel_rfl) (by decide)
  ·refine J.nilrow kd85 85 ?_
   exact J.conv2 [0, 1, 6, 7] [0, 1] [] [0] (by kernel_rfl) (by kernel_rfl) (by kernel_rfl) (by kernel_rfl) (by decide) h_
/-! ### haywain/haywainref13.with: function 71 -/
def haywainref13_with.l23 (K : Nat) (a0 : List S85) (a1 : S85) : Nat → ((List S85) × Bool × Int) → Option ((List S85) × Bool)
  | 0, _ => none
  | k + 1, s23 => cond (decide (s23.2.2 < (a0.length : Int))) (cond (!s23.2.1) ((idxO a0 s23.2.2).bind fun x6_5 => (cond (!(Op.bytesLess x6_5.f0.toList a1.f0.toList)) ((appO 48 s23.1 ([a1] : List S85)).bind fun y7_3 => some (((s23.1 ++ ([a1] : List S85)), true))) (some ((s23.1, s23.2.1))) : Option ((List S85) × Bool)).bind fun o38 : (List S85) × Bool => (idxO a0 s23.2.2).bind fun x9_2 => cond (!(x9_2.f0.toList == a1.f0.toList)) ((idxO a0 s23.2.2).bind fun x10_3 => (appO 48 o38.1 ([x10_3] : List S85)).bind fun y10_6 => haywainref13_with.l23 K a0 a1 k ((o38.1 ++ ([x10_3] : List S85)), o38.2, (IntKind.wrap .i64 (s23.2.2 + 1)))) (haywainref13_with.l23 K a0 a1 k (o38.1, o38.2, (IntKind.wrap .i64 (s23.2.2 + 1))))) ((idxO a0 s23.2.2).bind fun x9_2 => cond (!(x9_2.f0.toList == a1.f0.toList)) ((idxO a0 s23.2.2).bind fun x10_3 => (appO 48 s23.1 ([x10_3] : List S85)).bind fun y10_6 => haywainref13_with.l23 K a0 a1 k ((s23.1 ++ ([x10_3] : List S85)), s23.2.1, (IntKind.wrap .i64 (s23.2.2 + 1)))) (haywainref13_with.l23 K a0 a1 k (s23.1, s23.2.1, (IntKind.wrap .i64 (s23.2.2 + 1)))))) (some ((s23.1, s23.2.1)))
def haywainref13_with.f (K : Nat) (a0 : List S85) (a1 : S85) : Option (List S85) := (haywainref13_with.l23 K a0 a1 K (([] : List S85), false, 0) : Option ((List S85) × Bool)).bind fun o1 : (List S85) × Bool => cond (!o1.2) ((appO 48 o1.1 ([a1] : List S85)).bind fun y12_3 => some ((o1.1 ++ ([a1] : List S85)))) (some (o1.1))
set_option maxRecDepth 100000 in
set_option maxHeartbeats 1000000 in
theorem haywainref13_with.con (K : Nat) (a0 : List S85) (a1 : S85) (h0 : Hd) (h1 : Hd) (r : (List S85)) (X : Nat → Nat → Prop) (w : World) (hS : St X w [] [] [] [] [Rd kd85 h0.1 h0.2 a0, Rd (Kd.int .u8) h1.1 h1.2 a1.f1] w) (H : haywainref13_with.f K a0 a1 = some r) :
    Cn Try.prog 71 [.slice h0.1 a0.length h0.2, .agg #[.string a1.f0, .slice h1.1 a1.f1.length h1.2, .int .i64 a1.f2]] X w [] (fun i : Hd => .slice i.1 r.length i.2) (fun i => []) (fun i => [mkRow kd85 85 (.slice i.1 r.length i.2) r]) (fun i => []) := by
 refine Cn.of Try.func71 (by kernel_rfl) hS ?_
 unfold haywainref13_with.f at H
 refine J.seq (by kernel_rfl) ?_
 refine J.region (by kernel_rfl) ?_
 refine O.e (some 3) (Ev.box (t := 85) (x := .tmp 1) (v := .agg #[.string a1.f0, .slice h1.1 a1.f1.length h1.2, .int .i64 a1.f2]) (by kernel_rfl) (by kernel_rfl)) (by kernel_rfl) (fun p0_0 => ?_)
 refine O.pure 1 [] [0, 3] [] (fr' := [(0, .slice h0.1 a0.length h0.2), (3, .pointer (some ⟨p0_0, 0, none⟩))]) (bx' := [⟨p0_0, [.string a1.f0, .slice h1.1 a1.f1.length h1.2, .int .i64 a1.f2], 85⟩]) (by kernel_rfl) ?_
 refine O.nil (by kernel_rfl) ?_
 refine J.seq (by kernel_rfl) ?_
 refine J.region (by kernel_rfl) ?_
 refine O.pure 1 [] [0, 3, 5] [] (fr' := [(0, .slice h0.1 a0.length h0.2), (3, .pointer (some ⟨p0_0, 0, none⟩)), (5, .slice none 0 0)]) (bx' := [⟨p0_0, [.string a1.f0, .slice h1.1 a1.f1.length h1.2, .int .i64 a1.f2], 85⟩]) (by kernel_rfl) ?_
 refine O.nil (by kernel_rfl) ?_
 refine J.seq (by kernel_rfl) ?_
 refine J.region (by kernel_rfl) ?_
 refine O.pure 1 [] [0, 3, 5, 6] [] (fr' := [(0, .slice h0.1 a0.length h0.2), (3, .pointer (some ⟨p0_0, 0, none⟩)), (5, .slice none 0 0), (6, .bool false)]) (bx' := [⟨p0_0, [.string a1.f0, .slice h1.1 a1.f1.length h1.2, .int .i64 a1.f2], 85⟩]) (by kernel_rfl) ?_
 refine O.nil (by kernel_rfl) ?_
 refine J.seq (by kernel_rfl) ?_
 refine J.seq (by kernel_rfl) ?_
 refine J.region (by kernel_rfl) ?_
 refine O.pure 1 [] [0, 3, 5, 6, 7] [] (fr' := [(0, .slice h0.1 a0.length h0.2), (3, .pointer (some ⟨p0_0, 0, none⟩)), (5, .slice none 0 0), (6, .bool false), (7, .int .i64 0)]) (bx' := [⟨p0_0, [.string a1.f0, .slice h1.1 a1.f1.length h1.2, .int .i64 a1.f2], 85⟩]) (by kernel_rfl) ?_
 refine O.nil (by kernel_rfl) ?_
 refine J.join (α := (List S85) × Bool) (γ := Hd) (fun o1 q1 => [(3, .pointer (some ⟨p0_0, 0, none⟩)), (5, .slice q1.1 o1.1.length q1.2), (6, .bool o1.2)]) (fun o1 q1 => St X w [] [⟨p0_0, [.string a1.f0, .slice h1.1 a1.f1.length h1.2, .int .i64 a1.f2], 85⟩] [mkRow kd85 85 (.slice q1.1 o1.1.length q1.2) o1.1] [] [Rd kd85 h0.1 h0.2 a0, Rd (Kd.int .u8) h1.1 h1.2 a1.f1]) H (fun o1 q1 H => ?_) (fun o1 H hj1 => ?_)
 ·refine J.seq (by kernel_rfl) ?_
  refine J.seq (by kernel_rfl) ?_
  refine J.region (by kernel_rfl) ?_
  refine O.pure 2 [] [3, 5, 46] [] (fr' := [(3, .pointer (some ⟨p0_0, 0, none⟩)), (5, .slice q1.1 o1.1.length q1.2), (46, .bool (!o1.2))]) (bx' := [⟨p0_0, [.string a1.f0, .slice h1.1 a1.f1.length h1.2, .int .i64 a1.f2], 85⟩]) (by kernel_rfl) ?_
  refine O.nil (by kernel_rfl) ?_
  rcases condE H with ⟨hc22, H⟩ | ⟨hc22, H⟩
  ·refine J.condT (x := .tmp 46) (t := (!o1.2)) (by kernel_rfl) (by kernel_rfl) hc22 ?_
   obtain ⟨y12_3, hy12_3, H⟩ := bindE H
   have hy12_3a := (appE hy12_3).1
   refine J.region (by kernel_rfl) ?_
   refine O.pure 2 [(0, 0)] [5, 47, 48] [p0_0, 0] (fr' := [(5, .slice q1.1 o1.1.length q1.2), (47, .slice q1.1 o1.1.length q1.2), (48, .agg #[.string a1.f0, .slice h1.1 a1.f1.length h1.2, .int .i64 a1.f2])]) (bx' := [⟨p0_0, [.string a1.f0, .slice h1.1 a1.f1.length h1.2, .int .i64 a1.f2], 85⟩]) (by kernel_rfl) ?_
   refine O.e (some 49) (Ev.lit (t := 33) (len := 1) (parts := #[(0, .tmp 48)]) (ps := [(0, .agg #[.string a1.f0, .slice h1.1 a1.f1.length h1.2, .int .i64 a1.f2])]) (cs := [.string a1.f0, .slice h1.1 a1.f1.length h1.2, .int .i64 a1.f2]) (e := 85) kd85 ([a1] : List S85) (by kernel_rfl) (by kernel_rfl) (by kernel_rfl) (by kernel_rfl) (by kernel_rfl) (by decide) (fun w' hφ => (Els.cons (c := [.string a1.f0, .slice h1.1 a1.f1.length h1.2, .int .i64 a1.f2]) (⟨h1, rfl, hφ _ (List.mem_of_getElem? (i := 1) rfl)⟩) (Els.nil _ _ _)))) (by kernel_rfl) (fun p12_2 => ?_)
   refine O.e (some 50) (Ev.appLit (x := .tmp 47) (y := .tmp 49) (t := 33) (bytes := 48) (by kernel_rfl) (by kernel_rfl) (by kernel_rfl) (by kernel_rfl) (by kernel_rfl) (by decide) hy12_3a) (by kernel_rfl) (fun p12_3 => ?_)
   refine O.pure 1 [] [5] [] (fr' := [(5, .slice p12_3.1 (o1.1 ++ ([a1] : List S85)).length p12_3.2)]) (bx' := [⟨p0_0, [.string a1.f0, .slice h1.1 a1.f1.length h1.2, .int .i64 a1.f2], 85⟩]) (by kernel_rfl) ?_
   refine O.nil (by kernel_rfl) ?_
   refine J.seq (by kernel_rfl) ?_
   refine J.region (by kernel_rfl) ?_
   refine O.pure 2 [] [4] [] (fr' := [(4, .slice p12_3.1 (o1.1 ++ ([a1] : List S85)).length p12_3.2)]) (bx' := [⟨p0_0, [.string a1.f0, .slice h1.1 a1.f1.length h1.2, .int .i64 a1.f2], 85⟩]) (by kernel_rfl) ?_
   refine O.nil (by kernel_rfl) ?_
   obtain rfl := Option.some.inj H
   exact J.doneS [] [] [] [] [0] p12_3 (vs := [.slice p12_3.1 (o1.1 ++ ([a1] : List S85)).length p12_3.2]) (by kernel_rfl) (by kernel_rfl) (by kernel_rfl) (by kernel_rfl) (by kernel_rfl) (by decide)
  ·refine J.condF (x := .tmp 46) (t := (!o1.2)) (by kernel_rfl) (by kernel_rfl) hc22 ?_
   refine J.skip (by kernel_rfl) ?_
   refine J.seq (by kernel_rfl) ?_
   refine J.region (by kernel_rfl) ?_
   refine O.pure 2 [] [4] [] (fr' := [(4, .slice q1.1 o1.1.length q1.2)]) (bx' := [⟨p0_0, [.string a1.f0, .slice h1.1 a1.f1.length h1.2, .int .i64 a1.f2], 85⟩]) (by kernel_rfl) ?_
   refine O.nil (by kernel_rfl) ?_
   obtain rfl := Option.some.inj H
   exact J.doneS [] [] [] [] [0] q1 (vs := [.slice q1.1 o1.1.length q1.2]) (by kernel_rfl) (by kernel_rfl) (by kernel_rfl) (by kernel_rfl) (by kernel_rfl) (by decide)
 ·refine J.block (id := 0) (by kernel_rfl) ?_
  refine J.loopI (σ := (List S85) × Bool × Int) (γ := Hd) (f := fun m_ s_ => haywainref13_with.l23 K a0 a1 m_ s_) (fun s23 g23 => [(0, .slice h0.1 a0.length h0.2), (3, .pointer (some ⟨p0_0, 0, none⟩)), (5, .slice g23.1 s23.1.length g23.2), (6, .bool s23.2.1), (7, .int .i64 s23.2.2)]) (fun s23 g23 => St X w [] [⟨p0_0, [.string a1.f0, .slice h1.1 a1.f1.length h1.2, .int .i64 a1.f2], 85⟩] [mkRow kd85 85 (.slice g23.1 s23.1.length g23.2) s23.1] [] [Rd kd85 h0.1 h0.2 a0, Rd (Kd.int .u8) h1.1 h1.2 a1.f1]) K (([] : List S85), false, 0) (none, 0) (by kernel_rfl) H (fun _ => rfl) (fun m_ s23 H ih23 g23 => ?_) (fun h_ => ?_)
  ·unfold haywainref13_with.l23 at H
   refine J.seq (by kernel_rfl) ?_
   refine J.seq (by kernel_rfl) ?_
   refine J.region (by kernel_rfl) ?_
   refine O.pure 4 [] [0, 3, 5, 6, 7, 11] [] (fr' := [(0, .slice h0.1 a0.length h0.2), (3, .pointer (some ⟨p0_0, 0, none⟩)), (5, .slice g23.1 s23.1.length g23.2), (6, .bool s23.2.1), (7, .int .i64 s23.2.2), (11, .bool (decide (s23.2.2 < (a0.length : Int))))]) (bx' := [⟨p0_0, [.string a1.f0, .slice h1.1 a1.f1.length h1.2, .int .i64 a1.f2], 85⟩]) (by kernel_rfl) ?_
   refine O.nil (by kernel_rfl) ?_
   rcases condE H with ⟨hc36, H⟩ | ⟨hc36, H⟩
   ·refine J.condT (x := .tmp 11) (t := (decide (s23.2.2 < (a0.length : Int)))) (by kernel_rfl) (by kernel_rfl) hc36 ?_
    refine J.skip (by kernel_rfl) ?_
    refine J.seq (by kernel_rfl) ?_
    refine J.block (id := 1) (by kernel_rfl) ?_
    refine J.seq (by kernel_rfl) ?_
    refine J.seq (by kernel_rfl) ?_
    rcases condE H with ⟨hc37, H⟩ | ⟨hc37, H⟩
    ·obtain ⟨x6_5, hx6_5, H⟩ := bindE H
     obtain ⟨hx6_5a, hx6_5⟩ := idxE hx6_5
     refine J.open (d := kd85) (h := h0) (i := s23.2.2) 0 rfl hx6_5 (op85 _) (fun p6_5 hp6_5A => ?_)
     refine J.drawS (by kernel_rfl) [(0, some 14, .bool s23.2.1), (2, some 16, .bool true), (3, some 17, .slice h0.1 a0.length h0.2), (4, some 18, .int .i64 s23.2.2), (6, some 20, .pointer (some ⟨p6_5.1, p6_5.2.1 + s23.2.2.toNat * 3, none⟩)), (7, some 21, .string x6_5.f0), (8, some 22, .pointer (some ⟨p0_0, 0, none⟩)), (9, some 23, .string a1.f0), (10, some 24, .bool (!(Op.bytesLess x6_5.f0.toList a1.f0.toList))), (11, some 25, .bool (!(Op.bytesLess x6_5.f0.toList a1.f0.toList))), (1, some 15, .bool true), (5, some 19, .pointer (some ⟨p6_5.1, p6_5.2.1 + s23.2.2.toNat * 3, none⟩))] ([0, 2, 3, 4, 6, 7, 8, 9, 10, 11] ++ [1, 5]) (by kernel_rfl) ?_
     refine D.fin (fr' := [(0, .slice h0.1 a0.length h0.2), (3, .pointer (some ⟨p0_0, 0, none⟩)), (5, .slice g23.1 s23.1.length g23.2), (6, .bool s23.2.1), (7, .int .i64 s23.2.2), (17, .slice h0.1 a0.length h0.2), (18, .int .i64 s23.2.2), (19, .pointer (some ⟨p6_5.1, p6_5.2.1 + s23.2.2.toNat * 3, none⟩)), (20, .pointer (some ⟨p6_5.1, p6_5.2.1 + s23.2.2.toNat * 3, none⟩)), (21, .string x6_5.f0), (22, .pointer (some ⟨p0_0, 0, none⟩)), (23, .string a1.f0), (24, .bool (!(Op.bytesLess x6_5.f0.toList a1.f0.toList))), (25, .bool (!(Op.bytesLess x6_5.f0.toList a1.f0.toList)))]) [0, 2, 3, 4, 6, 7, 8, 9, 10, 11] [1, 5] [(1, 0), (0, 0)] [p6_5.1, p6_5.2.1 + s23.2.2.toNat * 3, p0_0, 0] [0, 3, 5, 6, 7, 17, 18, 19, 20, 21, 22, 23, 24, 25] (by kernel_rfl) (by kernel_rfl) (⟨QuAt.mk (v := .bool true) (some 15) (by kernel_rfl) (by kernel_rfl) (Qu.eqv (u := .bool (!s23.2.1)) (v := .bool true) (0, 0) [] (by kernel_rfl) (congrArg Value.bool hc37)), QuAt.mk (v := .pointer (some ⟨p6_5.1, p6_5.2.1 + s23.2.2.toNat * 3, none⟩)) (some 19) (by kernel_rfl) (by kernel_rfl) (Qu.idx (t := 33) (x := .tmp 17) (y := .tmp 18) (c := h0.2) (kk := .i64) (sz := 3) (by kernel_rfl) (by kernel_rfl) (by kernel_rfl) (by kernel_rfl) hx6_5a (idx_lt hx6_5) hp6_5A), trivial⟩) (by kernel_rfl) ?_
     refine J.join (α := (List S85) × Bool) (γ := Hd) (fun o38 q38 => [(0, .slice h0.1 a0.length h0.2), (3, .pointer (some ⟨p0_0, 0, none⟩)), (5, .slice q38.1 o38.1.length q38.2), (6, .bool o38.2), (7, .int .i64 s23.2.2), (17, .slice h0.1 a0.length h0.2), (18, .int .i64 s23.2.2), (19, .pointer (some ⟨p6_5.1, p6_5.2.1 + s23.2.2.toNat * 3, none⟩)), (20, .pointer (some ⟨p6_5.1, p6_5.2.1 + s23.2.2.toNat * 3, none⟩)), (21, .string x6_5.f0), (22, .pointer (some ⟨p0_0, 0, none⟩)), (23, .string a1.f0), (24, .bool (!(Op.bytesLess x6_5.f0.toList a1.f0.toList)))]) (fun o38 q38 => St X w [] [⟨p0_0, [.string a1.f0, .slice h1.1 a1.f1.length h1.2, .int .i64 a1.f2], 85⟩] [mkRow kd85 85 (.slice q38.1 o38.1.length q38.2) o38.1] [] [Rd kd85 h0.1 h0.2 a0, Rd (Kd.int .u8) h1.1 h1.2 a1.f1]) H (fun o38 q38 H => ?_) (fun o38 H hj38 => ?_)
     ·refine J.seq (by kernel_rfl) ?_
      obtain ⟨x9_2, hx9_2, H⟩ := bindE H
      obtain ⟨hx9_2a, hx9_2⟩ := idxE hx9_2
      refine J.open (d := kd85) (h := h0) (i := s23.2.2) 0 rfl hx9_2 (op85 _) (fun p9_2 hp9_2A => ?_)
      refine J.drawS (by kernel_rfl) [(0, some 30, .slice h0.1 a0.length h0.2), (1, some 31, .int .i64 s23.2.2), (3, some 33, .pointer (some ⟨p9_2.1, p9_2.2.1 + s23.2.2.toNat * 3, none⟩)), (4, some 34, .string x9_2.f0), (5, some 35, .pointer (some ⟨p0_0, 0, none⟩)), (6, some 36, .string a1.f0), (7, some 37, .bool (!(x9_2.f0.toList == a1.f0.toList))), (2, some 32, .pointer (some ⟨p9_2.1, p9_2.2.1 + s23.2.2.toNat * 3, none⟩))] ([0, 1, 3, 4, 5, 6, 7] ++ [2]) (by kernel_rfl) ?_
      refine D.fin (fr' := [(0, .slice h0.1 a0.length h0.2), (3, .pointer (some ⟨p0_0, 0, none⟩)), (5, .slice q38.1 o38.1.length q38.2), (6, .bool o38.2), (7, .int .i64 s23.2.2), (17, .slice h0.1 a0.length h0.2), (18, .int .i64 s23.2.2), (19, .pointer (some ⟨p6_5.1, p6_5.2.1 + s23.2.2.toNat * 3, none⟩)), (20, .pointer (some ⟨p6_5.1, p6_5.2.1 + s23.2.2.toNat * 3, none⟩)), (21, .string x6_5.f0), (22, .pointer (some ⟨p0_0, 0, none⟩)), (23, .string a1.f0), (24, .bool (!(Op.bytesLess x6_5.f0.toList a1.f0.toList))), (37, .bool (!(x9_2.f0.toList == a1.f0.toList)))]) [0, 1, 3, 4, 5, 6, 7] [2] [(1, 0), (0, 0)] [p9_2.1, p9_2.2.1 + s23.2.2.toNat * 3, p0_0, 0] [0, 3, 5, 6, 7, 17, 18, 19, 20, 21, 22, 23, 24, 37] (by kernel_rfl) (by kernel_rfl) (⟨QuAt.mk (v := .pointer (some ⟨p9_2.1, p9_2.2.1 + s23.2.2.toNat * 3, none⟩)) (some 32) (by kernel_rfl) (by kernel_rfl) (Qu.idx (t := 33) (x := .tmp 30) (y := .tmp 31) (c := h0.2) (kk := .i64) (sz := 3) (by kernel_rfl) (by kernel_rfl) (by kernel_rfl) (by kernel_rfl) hx9_2a (idx_lt hx9_2) hp9_2A), trivial⟩) (by kernel_rfl) ?_
      rcases condE H with ⟨hc40, H⟩ | ⟨hc40, H⟩
      ·refine J.condT (x := .tmp 37) (t := (!(x9_2.f0.toList == a1.f0.toList))) (by kernel_rfl) (by kernel_rfl) hc40 ?_
       obtain ⟨x10_3, hx10_3, H⟩ := bindE H
       obtain ⟨hx10_3a, hx10_3⟩ := idxE hx10_3
       obtain ⟨y10_6, hy10_6, H⟩ := bindE H
       have hy10_6a := (appE hy10_6).1
       refine J.region (by kernel_rfl) ?_
       refine O.pure 3 [] [0, 3, 5, 6, 7, 17, 18, 19, 20, 21, 22, 23, 24, 38, 39, 40] [] (fr' := [(0, .slice h0.1 a0.length h0.2), (3, .pointer (some ⟨p0_0, 0, none⟩)), (5, .slice q38.1 o38.1.length q38.2), (6, .bool o38.2), (7, .int .i64 s23.2.2), (17, .slice h0.1 a0.length h0.2), (18, .int .i64 s23.2.2), (19, .pointer (some ⟨p6_5.1, p6_5.2.1 + s23.2.2.toNat * 3, none⟩)), (20, .pointer (some ⟨p6_5.1, p6_5.2.1 + s23.2.2.toNat * 3, none⟩)), (21, .string x6_5.f0), (22, .pointer (some ⟨p0_0, 0, none⟩)), (23, .string a1.f0), (24, .bool (!(Op.bytesLess x6_5.f0.toList a1.f0.toList))), (38, .slice q38.1 o38.1.length q38.2), (39, .slice h0.1 a0.length h0.2), (40, .int .i64 s23.2.2)]) (bx' := [⟨p0_0, [.string a1.f0, .slice h1.1 a1.f1.length h1.2, .int .i64 a1.f2], 85⟩]) (by kernel_rfl) ?_
       refine O.open (d := kd85) (h := h0) (i := s23.2.2) 1 rfl hx10_3 (op85 _) (fun p10_3 hp10_3A => ?_)
       refine O.q (v := .pointer (some ⟨p10_3.1, p10_3.2.1 + s23.2.2.toNat * 3, none⟩)) (some 41) (Qu.idx (t := 33) (x := .tmp 39) (y := .tmp 40) (c := h0.2) (kk := .i64) (sz := 3) (by kernel_rfl) (by kernel_rfl) (by kernel_rfl) (by kernel_rfl) hx10_3a (idx_lt hx10_3) hp10_3A) (by kernel_rfl) ?_
       refine O.pure 1 [(1, 0)] [0, 3, 5, 6, 7, 17, 18, 19, 20, 21, 22, 23, 24, 38, 42] [p10_3.1, p10_3.2.1 + s23.2.2.toNat * 3] (fr' := [(0, .slice h0.1 a0.length h0.2), (3, .pointer (some ⟨p0_0, 0, none⟩)), (5, .slice q38.1 o38.1.length q38.2), (6, .bool o38.2), (7, .int .i64 s23.2.2), (17, .slice h0.1 a0.length h0.2), (18, .int .i64 s23.2.2), (19, .pointer (some ⟨p6_5.1, p6_5.2.1 + s23.2.2.toNat * 3, none⟩)), (20, .pointer (some ⟨p6_5.1, p6_5.2.1 + s23.2.2.toNat * 3, none⟩)), (21, .string x6_5.f0), (22, .pointer (some ⟨p0_0, 0, none⟩)), (23, .string a1.f0), (24, .bool (!(Op.bytesLess x6_5.f0.toList a1.f0.toList))), (38, .slice q38.1 o38.1.length q38.2), (42, .agg #[.string x10_3.f0, .slice p10_3.2.2.1 x10_3.f1.length p10_3.2.2.2, .int .i64 x10_3.f2])]) (bx' := [⟨p0_0, [.string a1.f0, .slice h1.1 a1.f1.length h1.2, .int .i64 a1.f2], 85⟩]) (by kernel_rfl) ?_
       refine O.e (some 43) (Ev.lit (t := 33) (len := 1) (parts := #[(0, .tmp 42)]) (ps := [(0, .agg #[.string x10_3.f0, .slice p10_3.2.2.1 x10_3.f1.length p10_3.2.2.2, .int .i64 x10_3.f2])]) (cs := [.string x10_3.f0, .slice p10_3.2.2.1 x10_3.f1.length p10_3.2.2.2, .int .i64 x10_3.f2]) (e := 85) kd85 ([x10_3] : List S85) (by kernel_rfl) (by kernel_rfl) (by kernel_rfl) (by kernel_rfl) (by kernel_rfl) (by decide) (fun w' hφ => (Els.cons (c := [.string x10_3.f0, .slice p10_3.2.2.1 x10_3.f1.length p10_3.2.2.2, .int .i64 x10_3.f2]) (⟨p10_3.2.2, rfl, hφ _ (List.mem_of_getElem? (i := 0) rfl)⟩) (Els.nil _ _ _)))) (by kernel_rfl) (fun p10_5 => ?_)
       refine O.e (some 44) (Ev.appLit (x := .tmp 38) (y := .tmp 43) (t := 33) (bytes := 48) (by kernel_rfl) (by kernel_rfl) (by kernel_rfl) (by kernel_rfl) (by kernel_rfl) (by decide) hy10_6a) (by kernel_rfl) (fun p10_6 => ?_)
       refine O.pure 1 [] [0, 3, 5, 6, 7, 17, 18, 19, 20, 21, 22, 23, 24] [] (fr' := [(0, .slice h0.1 a0.length h0.2), (3, .pointer (some ⟨p0_0, 0, none⟩)), (5, .slice p10_6.1 (o38.1 ++ ([x10_3] : List S85)).length p10_6.2), (6, .bool o38.2), (7, .int .i64 s23.2.2), (17, .slice h0.1 a0.length h0.2), (18, .int .i64 s23.2.2), (19, .pointer (some ⟨p6_5.1, p6_5.2.1 + s23.2.2.toNat * 3, none⟩)), (20, .pointer (some ⟨p6_5.1, p6_5.2.1 + s23.2.2.toNat * 3, none⟩)), (21, .string x6_5.f0), (22, .pointer (some ⟨p0_0, 0, none⟩)), (23, .string a1.f0), (24, .bool (!(Op.bytesLess x6_5.f0.toList a1.f0.toList)))]) (bx' := [⟨p0_0, [.string a1.f0, .slice h1.1 a1.f1.length h1.2, .int .i64 a1.f2], 85⟩]) (by kernel_rfl) ?_
       refine O.nil (by kernel_rfl) ?_
       refine J.out ?_
       refine J.region (by kernel_rfl) ?_
       refine O.pure 3 [] [0, 3, 5, 6, 7, 17, 18, 19, 20, 21, 22, 23, 24] [] (fr' := [(0, .slice h0.1 a0.length h0.2), (3, .pointer (some ⟨p0_0, 0, none⟩)), (5, .slice p10_6.1 (o38.1 ++ ([x10_3] : List S85)).length p10_6.2), (6, .bool o38.2), (7, .int .i64 (IntKind.wrap .i64 (s23.2.2 + 1))), (17, .slice h0.1 a0.length h0.2), (18, .int .i64 s23.2.2), (19, .pointer (some ⟨p6_5.1, p6_5.2.1 + s23.2.2.toNat * 3, none⟩)), (20, .pointer (some ⟨p6_5.1, p6_5.2.1 + s23.2.2.toNat * 3, none⟩)), (21, .string x6_5.f0), (22, .pointer (some ⟨p0_0, 0, none⟩)), (23, .string a1.f0), (24, .bool (!(Op.bytesLess x6_5.f0.toList a1.f0.toList)))]) (bx' := [⟨p0_0, [.string a1.f0, .slice h1.1 a1.f1.length h1.2, .int .i64 a1.f2], 85⟩]) (by kernel_rfl) ?_
       refine O.nil (by kernel_rfl) ?_
       exact J.conv2 [0, 3, 5, 6, 7] [2, 3] [0] [0] (by kernel_rfl) (by kernel_rfl) (by kernel_rfl) (by kernel_rfl) (by decide) (ih23 ((o38.1 ++ ([x10_3] : List S85)), o38.2, (IntKind.wrap .i64 (s23.2.2 + 1))) p10_6 H)
      ·refine J.condF (x := .tmp 37) (t := (!(x9_2.f0.toList == a1.f0.toList))) (by kernel_rfl) (by kernel_rfl) hc40 ?_
       refine J.skip (by kernel_rfl) ?_
       refine J.out ?_
       refine J.region (by kernel_rfl) ?_
       refine O.pure 3 [] [0, 3, 5, 6, 7, 17, 18, 19, 20, 21, 22, 23, 24] [] (fr' := [(0, .slice h0.1 a0.length h0.2), (3, .pointer (some ⟨p0_0, 0, none⟩)), (5, .slice q38.1 o38.1.length q38.2), (6, .bool o38.2), (7, .int .i64 (IntKind.wrap .i64 (s23.2.2 + 1))), (17, .slice h0.1 a0.length h0.2), (18, .int .i64 s23.2.2), (19, .pointer (some ⟨p6_5.1, p6_5.2.1 + s23.2.2.toNat * 3, none⟩)), (20, .pointer (some ⟨p6_5.1, p6_5.2.1 + s23.2.2.toNat * 3, none⟩)), (21, .string x6_5.f0), (22, .pointer (some ⟨p0_0, 0, none⟩)), (23, .string a1.f0), (24, .bool (!(Op.bytesLess x6_5.f0.toList a1.f0.toList)))]) (bx' := [⟨p0_0, [.string a1.f0, .slice h1.1 a1.f1.length h1.2, .int .i64 a1.f2], 85⟩]) (by kernel_rfl) ?_
       refine O.nil (by kernel_rfl) ?_
       exact J.conv2 [0, 3, 5, 6, 7] [1, 2] [0] [0] (by kernel_rfl) (by kernel_rfl) (by kernel_rfl) (by kernel_rfl) (by decide) (ih23 (o38.1, o38.2, (IntKind.wrap .i64 (s23.2.2 + 1))) q38 H)
     ·rcases condE H with ⟨hc41, H⟩ | ⟨hc41, H⟩
      ·refine J.condT (x := .tmp 25) (t := (!(Op.bytesLess x6_5.f0.toList a1.f0.toList))) (by kernel_rfl) (by kernel_rfl) hc41 ?_
       refine J.seq (by kernel_rfl) ?_
       obtain ⟨y7_3, hy7_3, H⟩ := bindE H
       have hy7_3a := (appE hy7_3).1
       refine J.region (by kernel_rfl) ?_
       refine O.pure 2 [(0, 0)] [0, 3, 5, 7, 17, 18, 19, 20, 21, 22, 23, 24, 26, 27] [p0_0, 0] (fr' := [(0, .slice h0.1 a0.length h0.2), (3, .pointer (some ⟨p0_0, 0, none⟩)), (5, .slice g23.1 s23.1.length g23.2), (7, .int .i64 s23.2.2), (17, .slice h0.1 a0.length h0.2), (18, .int .i64 s23.2.2), (19, .pointer (some ⟨p6_5.1, p6_5.2.1 + s23.2.2.toNat * 3, none⟩)), (20, .pointer (some ⟨p6_5.1, p6_5.2.1 + s23.2.2.toNat * 3, none⟩)), (21, .string x6_5.f0), (22, .pointer (some ⟨p0_0, 0, none⟩)), (23, .string a1.f0), (24, .bool (!(Op.bytesLess x6_5.f0.toList a1.f0.toList))), (26, .slice g23.1 s23.1.length g23.2), (27, .agg #[.string a1.f0, .slice h1.1 a1.f1.length h1.2, .int .i64 a1.f2])]) (bx' := [⟨p0_0, [.string a1.f0, .slice h1.1 a1.f1.length h1.2, .int .i64 a1.f2], 85⟩]) (by kernel_rfl) ?_
       refine O.e (some 28) (Ev.lit (t := 33) (len := 1) (parts := #[(0, .tmp 27)]) (ps := [(0, .agg #[.string a1.f0, .slice h1.1 a1.f1.length h1.2, .int .i64 a1.f2])]) (cs := [.string a1.f0, .slice h1.1 a1.f1.length h1.2, .int .i64 a1.f2]) (e := 85) kd85 ([a1] : List S85) (by kernel_rfl) (by kernel_rfl) (by kernel_rfl) (by kernel_rfl) (by kernel_rfl) (by decide) (fun w' hφ => (Els.cons (c := [.string a1.f0, .slice h1.1 a1.f1.length h1.2, .int .i64 a1.f2]) (⟨h1, rfl, hφ _ (List.mem_of_getElem? (i := 2) rfl)⟩) (Els.nil _ _ _)))) (by kernel_rfl) (fun p7_2 => ?_)
       refine O.e (some 29) (Ev.appLit (x := .tmp 26) (y := .tmp 28) (t := 33) (bytes := 48) (by kernel_rfl) (by kernel_rfl) (by kernel_rfl) (by kernel_rfl) (by kernel_rfl) (by decide) hy7_3a) (by kernel_rfl) (fun p7_3 => ?_)
       refine O.pure 1 [] [0, 3, 5, 7, 17, 18, 19, 20, 21, 22, 23, 24] [] (fr' := [(0, .slice h0.1 a0.length h0.2), (3, .pointer (some ⟨p0_0, 0, none⟩)), (5, .slice p7_3.1 (s23.1 ++ ([a1] : List S85)).length p7_3.2), (7, .int .i64 s23.2.2), (17, .slice h0.1 a0.length h0.2), (18, .int .i64 s23.2.2), (19, .pointer (some ⟨p6_5.1, p6_5.2.1 + s23.2.2.toNat * 3, none⟩)), (20, .pointer (some ⟨p6_5.1, p6_5.2.1 + s23.2.2.toNat * 3, none⟩)), (21, .string x6_5.f0), (22, .pointer (some ⟨p0_0, 0, none⟩)), (23, .string a1.f0), (24, .bool (!(Op.bytesLess x6_5.f0.toList a1.f0.toList)))]) (bx' := [⟨p0_0, [.string a1.f0, .slice h1.1 a1.f1.length h1.2, .int .i64 a1.f2], 85⟩]) (by kernel_rfl) ?_
       refine O.nil (by kernel_rfl) ?_
       refine J.region (by kernel_rfl) ?_
       refine O.pure 1 [] [0, 3, 5, 6, 7, 17, 18, 19, 20, 21, 22, 23, 24] [] (fr' := [(0, .slice h0.1 a0.length h0.2), (3, .pointer (some ⟨p0_0, 0, none⟩)), (5, .slice p7_3.1 (s23.1 ++ ([a1] : List S85)).length p7_3.2), (6, .bool true), (7, .int .i64 s23.2.2), (17, .slice h0.1 a0.length h0.2), (18, .int .i64 s23.2.2), (19, .pointer (some ⟨p6_5.1, p6_5.2.1 + s23.2.2.toNat * 3, none⟩)), (20, .pointer (some ⟨p6_5.1, p6_5.2.1 + s23.2.2.toNat * 3, none⟩)), (21, .string x6_5.f0), (22, .pointer (some ⟨p0_0, 0, none⟩)), (23, .string a1.f0), (24, .bool (!(Op.bytesLess x6_5.f0.toList a1.f0.toList)))]) (bx' := [⟨p0_0, [.string a1.f0, .slice h1.1 a1.f1.length h1.2, .int .i64 a1.f2], 85⟩]) (by kernel_rfl) ?_
       refine O.nil (by kernel_rfl) ?_
       obtain rfl := Option.some.inj H
       exact J.conv2 [0, 3, 5, 6, 7, 17, 18, 19, 20, 21, 22, 23, 24] [1, 2] [0] [0] (by kernel_rfl) (by kernel_rfl) (by kernel_rfl) (by kernel_rfl) (by decide) (hj38 p7_3)
      ·refine J.condF (x := .tmp 25) (t := (!(Op.bytesLess x6_5.f0.toList a1.f0.toList))) (by kernel_rfl) (by kernel_rfl) hc41 ?_
       refine J.skip (by kernel_rfl) ?_
       obtain rfl := Option.some.inj H
       exact J.conv2 [0, 3, 5, 6, 7, 17, 18, 19, 20, 21, 22, 23, 24] [1, 2] [0] [0] (by kernel_rfl) (by kernel_rfl) (by kernel_rfl) (by kernel_rfl) (by decide) (hj38 g23)
    ·refine J.drawS (by kernel_rfl) [(0, some 14, .bool s23.2.1), (2, some 16, .bool false), (3, some 17, undef), (4, some 18, undef), (5, some 19, undef), (6, some 20, undef), (7, some 21, undef), (8, some 22, undef), (9, some 23, undef), (10, some 24, undef), (11, some 25, .bool false), (1, some 15, .bool false)] ([0, 2, 3, 4, 5, 6, 7, 8, 9, 10, 11] ++ [1]) (by kernel_rfl) ?_
     refine D.fin (fr' := [(0, .slice h0.1 a0.length h0.2), (3, .pointer (some ⟨p0_0, 0, none⟩)), (5, .slice g23.1 s23.1.length g23.2), (6, .bool s23.2.1), (7, .int .i64 s23.2.2), (17, undef), (18, undef), (19, undef), (20, undef), (21, undef), (22, undef), (23, undef), (24, undef), (25, .bool false)]) [0, 2, 3, 4, 5, 6, 7, 8, 9, 10, 11] [1] [] [] [0, 3, 5, 6, 7, 17, 18, 19, 20, 21, 22, 23, 24, 25] (by kernel_rfl) (by kernel_rfl) (⟨QuAt.mk (v := .bool false) (some 15) (by kernel_rfl) (by kernel_rfl) (Qu.eqv (u := .bool (!s23.2.1)) (v := .bool false) (0, 0) [] (by kernel_rfl) (congrArg Value.bool hc37)), trivial⟩) (by kernel_rfl) ?_
     refine J.cond (o := .tmp 25) false (by kernel_rfl) (by kernel_rfl) ?_
     refine J.skip (by kernel_rfl) ?_
     refine J.seq (by kernel_rfl) ?_
     obtain ⟨x9_2, hx9_2, H⟩ := bindE H
     obtain ⟨hx9_2a, hx9_2⟩ := idxE hx9_2
     refine J.open (d := kd85) (h := h0) (i := s23.2.2) 0 rfl hx9_2 (op85 _) (fun p9_2 hp9_2A => ?_)
     refine J.drawS (by kernel_rfl) [(0, some 30, .slice h0.1 a0.length h0.2), (1, some 31, .int .i64 s23.2.2), (3, some 33, .pointer (some ⟨p9_2.1, p9_2.2.1 + s23.2.2.toNat * 3, none⟩)), (4, some 34, .string x9_2.f0), (5, some 35, .pointer (some ⟨p0_0, 0, none⟩)), (6, some 36, .string a1.f0), (7, some 37, .bool (!(x9_2.f0.toList == a1.f0.toList))), (2, some 32, .pointer (some ⟨p9_2.1, p9_2.2.1 + s23.2.2.toNat * 3, none⟩))] ([0, 1, 3, 4, 5, 6, 7] ++ [2]) (by kernel_rfl) ?_
     refine D.fin (fr' := [(0, .slice h0.1 a0.length h0.2), (3, .pointer (some ⟨p0_0, 0, none⟩)), (5, .slice g23.1 s23.1.length g23.2), (6, .bool s23.2.1), (7, .int .i64 s23.2.2), (17, undef), (18, undef), (19, undef), (20, undef), (21, undef), (22, undef), (23, undef), (24, undef), (37, .bool (!(x9_2.f0.toList == a1.f0.toList)))]) [0, 1, 3, 4, 5, 6, 7] [2] [(1, 0), (0, 0)] [p9_2.1, p9_2.2.1 + s23.2.2.toNat * 3, p0_0, 0] [0, 3, 5, 6, 7, 17, 18, 19, 20, 21, 22, 23, 24, 37] (by kernel_rfl) (by kernel_rfl) (⟨QuAt.mk (v := .pointer (some ⟨p9_2.1, p9_2.2.1 + s23.2.2.toNat * 3, none⟩)) (some 32) (by kernel_rfl) (by kernel_rfl) (Qu.idx (t := 33) (x := .tmp 30) (y := .tmp 31) (c := h0.2) (kk := .i64) (sz := 3) (by kernel_rfl) (by kernel_rfl) (by kernel_rfl) (by kernel_rfl) hx9_2a (idx_lt hx9_2) hp9_2A), trivial⟩) (by kernel_rfl) ?_
     rcases condE H with ⟨hc42, H⟩ | ⟨hc42, H⟩
     ·refine J.condT (x := .tmp 37) (t := (!(x9_2.f0.toList == a1.f0.toList))) (by kernel_rfl) (by kernel_rfl) hc42 ?_
      obtain ⟨x10_3, hx10_3, H⟩ := bindE H
      obtain ⟨hx10_3a, hx10_3⟩ := idxE hx10_3
      obtain ⟨y10_6, hy10_6, H⟩ := bindE H
      have hy10_6a := (appE hy10_6).1
      refine J.region (by kernel_rfl) ?_
      refine O.pure 3 [] [0, 3, 5, 6, 7, 17, 18, 19, 20, 21, 22, 23, 24, 38, 39, 40] [] (fr' := [(0, .slice h0.1 a0.length h0.2), (3, .pointer (some ⟨p0_0, 0, none⟩)), (5, .slice g23.1 s23.1.length g23.2), (6, .bool s23.2.1), (7, .int .i64 s23.2.2), (17, undef), (18, undef), (19, undef), (20, undef), (21, undef), (22, undef), (23, undef), (24, undef), (38, .slice g23.1 s23.1.length g23.2), (39, .slice h0.1 a0.length h0.2), (40, .int .i64 s23.2.2)]) (bx' := [⟨p0_0, [.string a1.f0, .slice h1.1 a1.f1.length h1.2, .int .i64 a1.f2], 85⟩]) (by kernel_rfl) ?_
      refine O.open (d := kd85) (h := h0) (i := s23.2.2) 1 rfl hx10_3 (op85 _) (fun p10_3 hp10_3A => ?_)
      refine O.q (v := .pointer (some ⟨p10_3.1, p10_3.2.1 + s23.2.2.toNat * 3, none⟩)) (some 41) (Qu.idx (t := 33) (x := .tmp 39) (y := .tmp 40) (c := h0.2) (kk := .i64) (sz := 3) (by kernel_rfl) (by kernel_rfl) (by kernel_rfl) (by kernel_rfl) hx10_3a (idx_lt hx10_3) hp10_3A) (by kernel_rfl) ?_
      refine O.pure 1 [(1, 0)] [0, 3, 5, 6, 7, 17, 18, 19, 20, 21, 22, 23, 24, 38, 42] [p10_3.1, p10_3.2.1 + s23.2.2.toNat * 3] (fr' := [(0, .slice h0.1 a0.length h0.2), (3, .pointer (some ⟨p0_0, 0, none⟩)), (5, .slice g23.1 s23.1.length g23.2), (6, .bool s23.2.1), (7, .int .i64 s23.2.2), (17, undef), (18, undef), (19, undef), (20, undef), (21, undef), (22, undef), (23, undef), (24, undef), (38, .slice g23.1 s23.1.length g23.2), (42, .agg #[.string x10_3.f0, .slice p10_3.2.2.1 x10_3.f1.length p10_3.2.2.2, .int .i64 x10_3.f2])]) (bx' := [⟨p0_0, [.string a1.f0, .slice h1.1 a1.f1.length h1.2, .int .i64 a1.f2], 85⟩]) (by kernel_rfl) ?_
      refine O.e (some 43) (Ev.lit (t := 33) (len := 1) (parts := #[(0, .tmp 42)]) (ps := [(0, .agg #[.string x10_3.f0, .slice p10_3.2.2.1 x10_3.f1.length p10_3.2.2.2, .int .i64 x10_3.f2])]) (cs := [.string x10_3.f0, .slice p10_3.2.2.1 x10_3.f1.length p10_3.2.2.2, .int .i64 x10_3.f2]) (e := 85) kd85 ([x10_3] : List S85) (by kernel_rfl) (by kernel_rfl) (by kernel_rfl) (by kernel_rfl) (by kernel_rfl) (by decide) (fun w' hφ => (Els.cons (c := [.string x10_3.f0, .slice p10_3.2.2.1 x10_3.f1.length p10_3.2.2.2, .int .i64 x10_3.f2]) (⟨p10_3.2.2, rfl, hφ _ (List.mem_of_getElem? (i := 0) rfl)⟩) (Els.nil _ _ _)))) (by kernel_rfl) (fun p10_5 => ?_)
      refine O.e (some 44) (Ev.appLit (x := .tmp 38) (y := .tmp 43) (t := 33) (bytes := 48) (by kernel_rfl) (by kernel_rfl) (by kernel_rfl) (by kernel_rfl) (by kernel_rfl) (by decide) hy10_6a) (by kernel_rfl) (fun p10_6 => ?_)
      refine O.pure 1 [] [0, 3, 5, 6, 7, 17, 18, 19, 20, 21, 22, 23, 24] [] (fr' := [(0, .slice h0.1 a0.length h0.2), (3, .pointer (some ⟨p0_0, 0, none⟩)), (5, .slice p10_6.1 (s23.1 ++ ([x10_3] : List S85)).length p10_6.2), (6, .bool s23.2.1), (7, .int .i64 s23.2.2), (17, undef), (18, undef), (19, undef), (20, undef), (21, undef), (22, undef), (23, undef), (24, undef)]) (bx' := [⟨p0_0, [.string a1.f0, .slice h1.1 a1.f1.length h1.2, .int .i64 a1.f2], 85⟩]) (by kernel_rfl) ?_
      refine O.nil (by kernel_rfl) ?_
      refine J.out ?_
      refine J.region (by kernel_rfl) ?_
      refine O.pure 3 [] [0, 3, 5, 6, 7, 17, 18, 19, 20, 21, 22, 23, 24] [] (fr' := [(0, .slice h0.1 a0.length h0.2), (3, .pointer (some ⟨p0_0, 0, none⟩)), (5, .slice p10_6.1 (s23.1 ++ ([x10_3] : List S85)).length p10_6.2), (6, .bool s23.2.1), (7, .int .i64 (IntKind.wrap .i64 (s23.2.2 + 1))), (17, undef), (18, undef), (19, undef), (20, undef), (21, undef), (22, undef), (23, undef), (24, undef)]) (bx' := [⟨p0_0, [.string a1.f0, .slice h1.1 a1.f1.length h1.2, .int .i64 a1.f2], 85⟩]) (by kernel_rfl) ?_
      refine O.nil (by kernel_rfl) ?_
      exact J.conv2 [0, 3, 5, 6, 7] [2, 3] [0] [0] (by kernel_rfl) (by kernel_rfl) (by kernel_rfl) (by kernel_rfl) (by decide) (ih23 ((s23.1 ++ ([x10_3] : List S85)), s23.2.1, (IntKind.wrap .i64 (s23.2.2 + 1))) p10_6 H)
     ·refine J.condF (x := .tmp 37) (t := (!(x9_2.f0.toList == a1.f0.toList))) (by kernel_rfl) (by kernel_rfl) hc42 ?_
      refine J.skip (by kernel_rfl) ?_
      refine J.out ?_
      refine J.region (by kernel_rfl) ?_
      refine O.pure 3 [] [0, 3, 5, 6, 7, 17, 18, 19, 20, 21, 22, 23, 24] [] (fr' := [(0, .slice h0.1 a0.length h0.2), (3, .pointer (some ⟨p0_0, 0, none⟩)), (5, .slice g23.1 s23.1.length g23.2), (6, .bool s23.2.1), (7, .int .i64 (IntKind.wrap .i64 (s23.2.2 + 1))), (17, undef), (18, undef), (19, undef), (20, undef), (21, undef), (22, undef), (23, undef), (24, undef)]) (bx' := [⟨p0_0, [.string a1.f0, .slice h1.1 a1.f1.length h1.2, .int .i64 a1.f2], 85⟩]) (by kernel_rfl) ?_
      refine O.nil (by kernel_rfl) ?_
      exact J.conv2 [0, 3, 5, 6, 7] [1, 2] [0] [0] (by kernel_rfl) (by kernel_rfl) (by kernel_rfl) (by kernel_rfl) (by decide) (ih23 (s23.1, s23.2.1, (IntKind.wrap .i64 (s23.2.2 + 1))) g23 H)
   ·refine J.condF (x := .tmp 11) (t := (decide (s23.2.2 < (a0.length : Int)))) (by kernel_rfl) (by kernel_rfl) hc36 ?_
    refine J.exit (id := 0) (by kernel_rfl) rfl ?_
    obtain rfl := Option.some.inj H
    exact J.conv2 [3, 5, 6] [0, 1] [0] [0] (by kernel_rfl) (by kernel_rfl) (by kernel_rfl) (by kernel_rfl) (by decide) (hj1 g23)
  ·refine J.nilrow kd85 85 ?_
   exact J.conv2 [0, 3, 5, 6, 7] [0, 1] [0] [0] (by kernel_rfl) (by kernel_rfl) (by kernel_rfl) (by kernel_rfl) (by decide) h_
/-! ### haywain/haywainref13.safe: function 74 -/
def haywainref13_safe.l1 (K : Nat) (a0 : List S85) (a1 : ByteArray) : Nat → Int → Option Int
  | 0, _ => none
  | k + 1, s1 => cond (decide (s1 < (a0.length : Int))) ((idxO a0 s1).bind fun x4_2 => cond (x4_2.f0.toList == a1.toList) ((idxO a0 s1).bind fun x5_2 => some (x5_2.f2)) (haywainref13_safe.l1 K a0 a1 k (IntKind.wrap .i64 (s1 + 1)))) (some (0))
def haywainref13_safe.f (K : Nat) (a0 : List S85) (a1 : ByteArray) : Option Int := haywainref13_safe.l1 K a0 a1 K 0
set_option maxRecDepth 100000 in
set_option maxHeartbeats 1000000 in
theorem haywainref13_safe.con (K : Nat) (a0 : List S85) (a1 : ByteArray) (h0 : Hd) (r : Int) (X : Nat → Nat → Prop) (w : World) (hS : St X w [] [] [] [] [Rd kd85 h0.1 h0.2 a0] w) (H : haywainref13_safe.f K a0 a1 = some r) :
    Cn Try.prog 74 [.slice h0.1 a0.length h0.2, .string a1] X w [] (fun i : Unit => .int .i64 r) (fun i => []) (fun i => []) (fun i => []) := by
 refine Cn.of Try.func74 (by kernel_rfl) hS ?_
 unfold haywainref13_safe.f at H
 refine J.seq (by kernel_rfl) ?_
 refine J.region (by kernel_rfl) ?_
 refine O.pure 1 [] [0, 1] [] (fr' := [(0, .slice h0.1 a0.length h0.2), (1, .string a1)]) (bx' := []) (by kernel_rfl) ?_
 refine O.nil (by kernel_rfl) ?_
 refine J.seq (by kernel_rfl) ?_
 refine J.seq (by kernel_rfl) ?_
 refine J.region (by kernel_rfl) ?_
 refine O.pure 1 [] [0, 1, 5] [] (fr' := [(0, .slice h0.1 a0.length h0.2), (1, .string a1), (5, .int .i64 0)]) (bx' := []) (by kernel_rfl) ?_
 refine O.nil (by kernel_rfl) ?_
 refine J.block (id := 0) (by kernel_rfl) ?_
 refine J.loopI (σ := Int) (γ := Unit) (f := fun m_ s_ => haywainref13_safe.l1 K a0 a1 m_ s_) (fun s1 g1 => [(0, .slice h0.1 a0.length h0.2), (1, .string a1), (5, .int .i64 s1)]) (fun s1 g1 => St X w [] [] [] [] [Rd kd85 h0.1 h0.2 a0]) K 0 () (by kernel_rfl) H (fun _ => rfl) (fun m_ s1 H ih1 g1 => ?_) (fun h_ => ?_)
 ·unfold haywainref13_safe.l1 at H
  refine J.seq (by kernel_rfl) ?_
  refine J.seq (by kernel_rfl) ?_
  refine J.region (by kernel_rfl) ?_
  refine O.pure 4 [] [0, 1, 5, 9] [] (fr' := [(0, .slice h0.1 a0.length h0.2), (1, .string a1), (5, .int .i64 s1), (9, .bool (decide (s1 < (a0.length : Int))))]) (bx' := []) (by kernel_rfl) ?_
  refine O.nil (by kernel_rfl) ?_
  rcases condE H with ⟨hc6, H⟩ | ⟨hc6, H⟩
  ·refine J.condT (x := .tmp 9) (t := (decide (s1 < (a0.length : Int)))) (by kernel_rfl) (by kernel_rfl) hc6 ?_
   refine J.skip (by kernel_rfl) ?_
   refine J.seq (by kernel_rfl) ?_
   refine J.block (id := 1) (by kernel_rfl) ?_
   refine J.seq (by kernel_rfl) ?_
   obtain ⟨x4_2, hx4_2, H⟩ := bindE H
   obtain ⟨hx4_2a, hx4_2⟩ := idxE hx4_2
   refine J.region (by kernel_rfl) ?_
   refine O.pure 2 [] [0, 1, 5, 12, 13] [] (fr' := [(0, .slice h0.1 a0.length h0.2), (1, .string a1), (5, .int .i64 s1), (12, .slice h0.1 a0.length h0.2), (13, .int .i64 s1)]) (bx' := []) (by kernel_rfl) ?_
   refine O.open (d := kd85) (h := h0) (i := s1) 0 rfl hx4_2 (op85 _) (fun p4_2 hp4_2A => ?_)
   refine O.q (v := .pointer (some ⟨p4_2.1, p4_2.2.1 + s1.toNat * 3, none⟩)) (some 14) (Qu.idx (t := 33) (x := .tmp 12) (y := .tmp 13) (c := h0.2) (kk := .i64) (sz := 3) (by kernel_rfl) (by kernel_rfl) (by kernel_rfl) (by kernel_rfl) hx4_2a (idx_lt hx4_2) hp4_2A) (by kernel_rfl) ?_
   refine O.pure 4 [(0, 0)] [0, 1, 5, 18] [p4_2.1, p4_2.2.1 + s1.toNat * 3] (fr' := [(0, .slice h0.1 a0.length h0.2), (1, .string a1), (5, .int .i64 s1), (18, .bool (x4_2.f0.toList == a1.toList))]) (bx' := []) (by kernel_rfl) ?_
   refine O.nil (by kernel_rfl) ?_
   rcases condE H with ⟨hc7, H⟩ | ⟨hc7, H⟩
   ·refine J.condT (x := .tmp 18) (t := (x4_2.f0.toList == a1.toList)) (by kernel_rfl) (by kernel_rfl) hc7 ?_
    refine J.seq (by kernel_rfl) ?_
    obtain ⟨x5_2, hx5_2, H⟩ := bindE H
    obtain ⟨hx5_2a, hx5_2⟩ := idxE hx5_2
    refine J.region (by kernel_rfl) ?_
    refine O.pure 2 [] [19, 20] [] (fr' := [(19, .slice h0.1 a0.length h0.2), (20, .int .i64 s1)]) (bx' := []) (by kernel_rfl) ?_
    refine O.open (d := kd85) (h := h0) (i := s1) 1 rfl hx5_2 (op85 _) (fun p5_2 hp5_2A => ?_)
    refine O.q (v := .pointer (some ⟨p5_2.1, p5_2.2.1 + s1.toNat * 3, none⟩)) (some 21) (Qu.idx (t := 33) (x := .tmp 19) (y := .tmp 20) (c := h0.2) (kk := .i64) (sz := 3) (by kernel_rfl) (by kernel_rfl) (by kernel_rfl) (by kernel_rfl) hx5_2a (idx_lt hx5_2) hp5_2A) (by kernel_rfl) ?_
    refine O.pure 3 [(0, 2)] [4] [p5_2.1, p5_2.2.1 + s1.toNat * 3 + 2] (fr' := [(4, .int .i64 x5_2.f2)]) (bx' := []) (by kernel_rfl) ?_
    refine O.nil (by kernel_rfl) ?_
    obtain rfl := Option.some.inj H
    exact J.doneS [] [] [] [] [] () (vs := [.int .i64 x5_2.f2]) (by kernel_rfl) (by kernel_rfl) (by kernel_rfl) (by kernel_rfl) (by kernel_rfl) (by decide)
   ·refine J.condF (x := .tmp 18) (t := (x4_2.f0.toList == a1.toList)) (by kernel_rfl) (by kernel_rfl) hc7 ?_
    refine J.skip (by kernel_rfl) ?_
    refine J.out ?_
    refine J.region (by kernel_rfl) ?_
    refine O.pure 3 [] [0, 1, 5] [] (fr' := [(0, .slice h0.1 a0.length h0.2), (1, .string a1), (5, .int .i64 (IntKind.wrap .i64 (s1 + 1)))]) (bx' := []) (by kernel_rfl) ?_
    refine O.nil (by kernel_rfl) ?_
    exact J.conv2 [0, 1, 5] [1] [] [] (by kernel_rfl) (by kernel_rfl) (by kernel_rfl) (by kernel_rfl) (by decide) (ih1 (IntKind.wrap .i64 (s1 + 1)) () H)
  ·refine J.condF (x := .tmp 9) (t := (decide (s1 < (a0.length : Int)))) (by kernel_rfl) (by kernel_rfl) hc6 ?_
   refine J.exit (id := 0) (by kernel_rfl) rfl ?_
   refine J.seq (by kernel_rfl) ?_
   refine J.region (by kernel_rfl) ?_
   refine O.pure 1 [] [4] [] (fr' := [(4, .int .i64 0)]) (bx' := []) (by kernel_rfl) ?_
   refine O.nil (by kernel_rfl) ?_
   obtain rfl := Option.some.inj H
   exact J.doneS [] [] [] [] [] () (vs := [.int .i64 0]) (by kernel_rfl) (by kernel_rfl) (by kernel_rfl) (by kernel_rfl) (by kernel_rfl) (by decide)
 ·exact J.conv2 [0, 1, 5] [0] [] [] (by kernel_rfl) (by kernel_rfl) (by kernel_rfl) (by kernel_rfl) (by decide) h_
/-! ### haywain/haywainref13.Put: function 69 -/
def haywainref13_Put.f (K : Nat) (a0 : List S85) (a1 : ByteArray) (a2 : List Int) : Option ((List S85) × Int) := (haywainref13_Good.f K a0).bind fun x1_1 => cond (decide ((a1.size : Int) < 1)) (some ((x1_1, 1))) (cond (decide ((a1.size : Int) > 16)) (some ((x1_1, 1))) ((haywainref13_Has.f K x1_1 a1).bind fun x4_2 => cond (!x4_2) (cond ((x1_1.length : Int) == 40) (some ((x1_1, 3))) (cond (decide ((a2.length : Int) > 20000)) (some ((x1_1, 3))) ((haywainref13_Get.f K x1_1 a1).bind fun x4_17 => cond (decide ((IntKind.wrap .i64 ((x4_17.length : Int) + (a2.length : Int))) > 20000)) (some ((x1_1, 3))) ((haywainref13_Get.f K x1_1 a1).bind fun x6_3 => (appO 1 ([] : List Int) x6_3).bind fun y6_4 => (appO 1 (([] : List Int) ++ x6_3) a2).bind fun y7_4 => (haywainref13_safe.f K x1_1 a1).bind fun x7_7 => (haywainref13_with.f K x1_1 (⟨a1, ((([] : List Int) ++ x6_3) ++ a2), x7_7⟩ : S85)).bind fun x7_9 => some ((x7_9, 0)))))) (cond (decide ((a2.length : Int) > 20000)) (some ((x1_1, 3))) ((haywainref13_Get.f K x1_1 a1).bind fun x4_17 => cond (decide ((IntKind.wrap .i64 ((x4_17.length : Int) + (a2.length : Int))) > 20000)) (some ((x1_1, 3))) ((haywainref13_Get.f K x1_1 a1).bind fun x6_3 => (appO 1 ([] : List Int) x6_3).bind fun y6_4 => (appO 1 (([] : List Int) ++ x6_3) a2).bind fun y7_4 => (haywainref13_safe.f K x1_1 a1).bind fun x7_7 => (haywainref13_with.f K x1_1 (⟨a1, ((([] : List Int) ++ x6_3) ++ a2), x7_7⟩ : S85)).bind fun x7_9 => some ((x7_9, 0)))))))
set_option maxRecDepth 100000 in
set_option maxHeartbeats 1000000 in
theorem haywainref13_Put.con (K : Nat) (a0 : List S85) (a1 : ByteArray) (a2 : List Int) (h0 : Hd) (h1 : Hd) (r : ((List S85) × Int)) (X : Nat → Nat → Prop) (w : World) (hS : St X w [] [] [] [] [Rd kd85 h0.1 h0.2 a0, Rd (Kd.int .u8) h1.1 h1.2 a2] w) (H : haywainref13_Put.f K a0 a1 a2 = some r) :
    Cn Try.prog 69 [.slice h0.1 a0.length h0.2, .string a1, .slice h1.1 a2.length h1.2] X w [] (fun i : Hd => .tuple #[.slice i.1 r.1.length i.2, .int .i64 r.2]) (fun i => []) (fun i => []) (fun i => [Rd kd85 i.1 i.2 r.1]) := by
 refine Cn.of Try.func69 (by kernel_rfl) hS ?_
 unfold haywainref13_Put.f at H
 refine J.seq (by kernel_rfl) ?_
 refine J.region (by kernel_rfl) ?_
 refine O.pure 2 [] [0, 1, 2] [] (fr' := [(0, .slice h0.1 a0.length h0.2), (1, .string a1), (2, .slice h1.1 a2.length h1.2)]) (bx' := []) (by kernel_rfl) ?_
 refine O.nil (by kernel_rfl) ?_
 refine J.seq (by kernel_rfl) ?_
 obtain ⟨x1_1, hx1_1, H⟩ := bindE H
 refine J.region (by kernel_rfl) ?_
 refine O.pure 1 [] [0, 1, 2, 9] [] (fr' := [(0, .slice h0.1 a0.length h0.2), (1, .string a1), (2, .slice h1.1 a2.length h1.2), (9, .slice h0.1 a0.length h0.2)]) (bx' := []) (by kernel_rfl) ?_
 refine O.e (some 10) (Ev.call0 (xs := [.tmp 9]) [0] (by kernel_rfl) (by kernel_rfl) (fun w hS => haywainref13_Good.con K a0 h0  _ _ w hS hx1_1)) (by kernel_rfl) (fun p1_1 => ?_)
 refine O.pure 1 [] [0, 1, 2] [] (fr' := [(0, .slice p1_1.1 x1_1.length p1_1.2), (1, .string a1), (2, .slice h1.1 a2.length h1.2)]) (bx' := []) (by kernel_rfl) ?_
 refine O.nil (by kernel_rfl) ?_
 refine J.seq (by kernel_rfl) ?_
 refine J.seq (by kernel_rfl) ?_
 rcases condE H with ⟨hc1, H⟩ | ⟨hc1, H⟩
 ·refine J.region (by kernel_rfl) ?_
  refine O.pure 2 [] [0, 1, 2, 12] [] (fr' := [(0, .slice p1_1.1 x1_1.length p1_1.2), (1, .string a1), (2, .slice h1.1 a2.length h1.2), (12, .int .i64 (a1.size : Int))]) (bx' := []) (by kernel_rfl) ?_
  refine O.q (v := .bool true) (some 13) (Qu.eqv (u := .bool (decide ((a1.size : Int) < 1))) (v := .bool true) (0, 0) [] (by kernel_rfl) (congrArg Value.bool hc1)) (by kernel_rfl) ?_
  refine O.pure 5 [] [0, 1, 2, 18] [] (fr' := [(0, .slice p1_1.1 x1_1.length p1_1.2), (1, .string a1), (2, .slice h1.1 a2.length h1.2), (18, .bool true)]) (bx' := []) (by kernel_rfl) ?_
  refine O.nil (by kernel_rfl) ?_
  refine J.cond (o := .tmp 18) true (by kernel_rfl) (by kernel_rfl) ?_
  refine J.seq (by kernel_rfl) ?_
  refine J.region (by kernel_rfl) ?_
  refine O.pure 3 [] [6, 7] [] (fr' := [(6, .slice p1_1.1 x1_1.length p1_1.2), (7, .int .i64 1)]) (bx' := []) (by kernel_rfl) ?_
  refine O.nil (by kernel_rfl) ?_
  obtain rfl := Option.some.inj H
  exact J.doneS [] [] [0] [] [] p1_1 (vs := [.slice p1_1.1 x1_1.length p1_1.2, .int .i64 1]) (by kernel_rfl) (by kernel_rfl) (by kernel_rfl) (by kernel_rfl) (by kernel_rfl) (by decide)
 ·refine J.region (by kernel_rfl) ?_
  refine O.pure 2 [] [0, 1, 2, 12] [] (fr' := [(0, .slice p1_1.1 x1_1.length p1_1.2), (1, .string a1), (2, .slice h1.1 a2.length h1.2), (12, .int .i64 (a1.size : Int))]) (bx' := []) (by kernel_rfl) ?_
  refine O.q (v := .bool false) (some 13) (Qu.eqv (u := .bool (decide ((a1.size : Int) < 1))) (v := .bool false) (0, 0) [] (by kernel_rfl) (congrArg Value.bool hc1)) (by kernel_rfl) ?_
  refine O.pure 5 [] [0, 1, 2, 18] [] (fr' := [(0, .slice p1_1.1 x1_1.length p1_1.2), (1, .string a1), (2, .slice h1.1 a2.length h1.2), (18, .bool (decide ((a1.size : Int) > 16)))]) (bx' := []) (by kernel_rfl) ?_
  refine O.nil (by kernel_rfl) ?_
  rcases condE H with ⟨hc2, H⟩ | ⟨hc2, H⟩
  ·refine J.condT (x := .tmp 18) (t := (decide ((a1.size : Int) > 16))) (by kernel_rfl) (by kernel_rfl) hc2 ?_
   refine J.seq (by kernel_rfl) ?_
   refine J.region (by kernel_rfl) ?_
   refine O.pure 3 [] [6, 7] [] (fr' := [(6, .slice p1_1.1 x1_1.length p1_1.2), (7, .int .i64 1)]) (bx' := []) (by kernel_rfl) ?_
   refine O.nil (by kernel_rfl) ?_
   obtain rfl := Option.some.inj H
   exact J.doneS [] [] [0] [] [] p1_1 (vs := [.slice p1_1.1 x1_1.length p1_1.2, .int .i64 1]) (by kernel_rfl) (by kernel_rfl) (by kernel_rfl) (by kernel_rfl) (by kernel_rfl) (by decide)
  ·refine J.condF (x := .tmp 18) (t := (decide ((a1.size : Int) > 16))) (by kernel_rfl) (by kernel_rfl) hc2 ?_
   refine J.skip (by kernel_rfl) ?_
   refine J.seq (by kernel_rfl) ?_
   refine J.seq (by kernel_rfl) ?_
   obtain ⟨x4_2, hx4_2, H⟩ := bindE H
   rcases condE H with ⟨hc3, H⟩ | ⟨hc3, H⟩
   ·rcases condE H with ⟨hc4, H⟩ | ⟨hc4, H⟩
    ·refine J.region (by kernel_rfl) ?_
     refine O.pure 2 [] [0, 1, 2, 20, 21] [] (fr' := [(0, .slice p1_1.1 x1_1.length p1_1.2), (1, .string a1), (2, .slice h1.1 a2.length h1.2), (20, .slice p1_1.1 x1_1.length p1_1.2), (21, .string a1)]) (bx' := []) (by kernel_rfl) ?_
     refine O.e (some 22) (Ev.call0 (xs := [.tmp 20, .tmp 21]) [0] (by kernel_rfl) (by kernel_rfl) (fun w hS => haywainref13_Has.con K x1_1 a1 p1_1  _ _ w hS hx4_2)) (by kernel_rfl) (fun _ => ?_)
     refine O.q (v := .bool true) (some 23) (Qu.eqv (u := .bool (!x4_2)) (v := .bool true) (0, 0) [] (by kernel_rfl) (congrArg Value.bool hc3)) (by kernel_rfl) ?_
     refine O.pure 3 [] [0, 1, 2, 24, 26] [] (fr' := [(0, .slice p1_1.1 x1_1.length p1_1.2), (1, .string a1), (2, .slice h1.1 a2.length h1.2), (24, .bool true), (26, .int .i64 (x1_1.length : Int))]) (bx' := []) (by kernel_rfl) ?_
     refine O.q (v := .bool true) (some 27) (Qu.eqv (u := .bool ((x1_1.length : Int) == 40)) (v := .bool true) (0, 0) [] (by kernel_rfl) (congrArg Value.bool hc4)) (by kernel_rfl) ?_
     refine O.pure 16 [] [0, 1, 2, 43] [] (fr' := [(0, .slice p1_1.1 x1_1.length p1_1.2), (1, .string a1), (2, .slice h1.1 a2.length h1.2), (43, .bool true)]) (bx' := []) (by kernel_rfl) ?_
     refine O.nil (by kernel_rfl) ?_
     refine J.cond (o := .tmp 43) true (by kernel_rfl) (by kernel_rfl) ?_
     refine J.seq (by kernel_rfl) ?_
     refine J.region (by kernel_rfl) ?_
     refine O.pure 3 [] [6, 7] [] (fr' := [(6, .slice p1_1.1 x1_1.length p1_1.2), (7, .int .i64 3)]) (bx' := []) (by kernel_rfl) ?_
     refine O.nil (by kernel_rfl) ?_
     obtain rfl := Option.some.inj H
     exact J.doneS [] [] [0] [] [] p1_1 (vs := [.slice p1_1.1 x1_1.length p1_1.2, .int .i64 3]) (by kernel_rfl) (by kernel_rfl) (by kernel_rfl) (by kernel_rfl) (by kernel_rfl) (by decide)
    ·rcases condE H with ⟨hc5, H⟩ | ⟨hc5, H⟩
     ·refine J.region (by kernel_rfl) ?_
      refine O.pure 2 [] [0, 1, 2, 20, 21] [] (fr' := [(0, .slice p1_1.1 x1_1.length p1_1.2), (1, .string a1), (2, .slice h1.1 a2.length h1.2), (20, .slice p1_1.1 x1_1.length p1_1.2), (21, .string a1)]) (bx' := []) (by kernel_rfl) ?_
      refine O.e (some 22) (Ev.call0 (xs := [.tmp 20, .tmp 21]) [0] (by kernel_rfl) (by kernel_rfl) (fun w hS => haywainref13_Has.con K x1_1 a1 p1_1  _ _ w hS hx4_2)) (by kernel_rfl) (fun _ => ?_)
      refine O.q (v := .bool true) (some 23) (Qu.eqv (u := .bool (!x4_2)) (v := .bool true) (0, 0) [] (by kernel_rfl) (congrArg Value.bool hc3)) (by kernel_rfl) ?_
      refine O.pure 3 [] [0, 1, 2, 24, 26] [] (fr' := [(0, .slice p1_1.1 x1_1.length p1_1.2), (1, .string a1), (2, .slice h1.1 a2.length h1.2), (24, .bool true), (26, .int .i64 (x1_1.length : Int))]) (bx' := []) (by kernel_rfl) ?_
      refine O.q (v := .bool false) (some 27) (Qu.eqv (u := .bool ((x1_1.length : Int) == 40)) (v := .bool false) (0, 0) [] (by kernel_rfl) (congrArg Value.bool hc4)) (by kernel_rfl) ?_
      refine O.pure 4 [] [0, 1, 2, 29, 31] [] (fr' := [(0, .slice p1_1.1 x1_1.length p1_1.2), (1, .string a1), (2, .slice h1.1 a2.length h1.2), (29, .bool false), (31, .int .i64 (a2.length : Int))]) (bx' := []) (by kernel_rfl) ?_
      refine O.q (v := .bool true) (some 32) (Qu.eqv (u := .bool (decide ((a2.length : Int) > 20000))) (v := .bool true) (0, 0) [] (by kernel_rfl) (congrArg Value.bool hc5)) (by kernel_rfl) ?_
      refine O.pure 11 [] [0, 1, 2, 43] [] (fr' := [(0, .slice p1_1.1 x1_1.length p1_1.2), (1, .string a1), (2, .slice h1.1 a2.length h1.2), (43, .bool true)]) (bx' := []) (by kernel_rfl) ?_
      refine O.nil (by kernel_rfl) ?_
      refine J.cond (o := .tmp 43) true (by kernel_rfl) (by kernel_rfl) ?_
      refine J.seq (by kernel_rfl) ?_
      refine J.region (by kernel_rfl) ?_
      refine O.pure 3 [] [6, 7] [] (fr' := [(6, .slice p1_1.1 x1_1.length p1_1.2), (7, .int .i64 3)]) (bx' := []) (by kernel_rfl) ?_
      refine O.nil (by kernel_rfl) ?_
      obtain rfl := Option.some.inj H
      exact J.doneS [] [] [0] [] [] p1_1 (vs := [.slice p1_1.1 x1_1.length p1_1.2, .int .i64 3]) (by kernel_rfl) (by kernel_rfl) (by kernel_rfl) (by kernel_rfl) (by kernel_rfl) (by decide)
     ·obtain ⟨x4_17, hx4_17, H⟩ := bindE H
      refine J.region (by kernel_rfl) ?_
      refine O.pure 2 [] [0, 1, 2, 20, 21] [] (fr' := [(0, .slice p1_1.1 x1_1.length p1_1.2), (1, .string a1), (2, .slice h1.1 a2.length h1.2), (20, .slice p1_1.1 x1_1.length p1_1.2), (21, .string a1)]) (bx' := []) (by kernel_rfl) ?_
      refine O.e (some 22) (Ev.call0 (xs := [.tmp 20, .tmp 21]) [0] (by kernel_rfl) (by kernel_rfl) (fun w hS => haywainref13_Has.con K x1_1 a1 p1_1  _ _ w hS hx4_2)) (by kernel_rfl) (fun _ => ?_)
      refine O.q (v := .bool true) (some 23) (Qu.eqv (u := .bool (!x4_2)) (v := .bool true) (0, 0) [] (by kernel_rfl) (congrArg Value.bool hc3)) (by kernel_rfl) ?_
      refine O.pure 3 [] [0, 1, 2, 24, 26] [] (fr' := [(0, .slice p1_1.1 x1_1.length p1_1.2), (1, .string a1), (2, .slice h1.1 a2.length h1.2), (24, .bool true), (26, .int .i64 (x1_1.length : Int))]) (bx' := []) (by kernel_rfl) ?_
      refine O.q (v := .bool false) (some 27) (Qu.eqv (u := .bool ((x1_1.length : Int) == 40)) (v := .bool false) (0, 0) [] (by kernel_rfl) (congrArg Value.bool hc4)) (by kernel_rfl) ?_
      refine O.pure 4 [] [0, 1, 2, 29, 31] [] (fr' := [(0, .slice p1_1.1 x1_1.length p1_1.2), (1, .string a1), (2, .slice h1.1 a2.length h1.2), (29, .bool false), (31, .int .i64 (a2.length : Int))]) (bx' := []) (by kernel_rfl) ?_
      refine O.q (v := .bool false) (some 32) (Qu.eqv (u := .bool (decide ((a2.length : Int) > 20000))) (v := .bool false) (0, 0) [] (by kernel_rfl) (congrArg Value.bool hc5)) (by kernel_rfl) ?_
      refine O.pure 4 [] [0, 1, 2, 34, 35, 36] [] (fr' := [(0, .slice p1_1.1 x1_1.length p1_1.2), (1, .string a1), (2, .slice h1.1 a2.length h1.2), (34, .bool false), (35, .slice p1_1.1 x1_1.length p1_1.2), (36, .string a1)]) (bx' := []) (by kernel_rfl) ?_
      refine O.e (some 37) (Ev.call0 (xs := [.tmp 35, .tmp 36]) [0] (by kernel_rfl) (by kernel_rfl) (fun w hS => haywainref13_Get.con K x1_1 a1 p1_1  _ _ w hS hx4_17)) (by kernel_rfl) (fun p4_17 => ?_)
      refine O.pure 6 [] [0, 1, 2, 43] [] (fr' := [(0, .slice p1_1.1 x1_1.length p1_1.2), (1, .string a1), (2, .slice h1.1 a2.length h1.2), (43, .bool (decide ((IntKind.wrap .i64 ((x4_17.length : Int) + (a2.length : Int))) > 20000)))]) (bx' := []) (by kernel_rfl) ?_
      refine O.nil (by kernel_rfl) ?_
      rcases condE H with ⟨hc6, H⟩ | ⟨hc6, H⟩
      ·refine J.condT (x := .tmp 43) (t := (decide ((IntKind.wrap .i64 ((x4_17.length : Int) + (a2.length : Int))) > 20000))) (by kernel_rfl) (by kernel_rfl) hc6 ?_
       refine J.seq (by kernel_rfl) ?_
       refine J.region (by kernel_rfl) ?_
       refine O.pure 3 [] [6, 7] [] (fr' := [(6, .slice p1_1.1 x1_1.length p1_1.2), (7, .int .i64 3)]) (bx' := []) (by kernel_rfl) ?_
       refine O.nil (by kernel_rfl) ?_
       obtain rfl := Option.some.inj H
       exact J.doneS [] [] [1] [] [] p1_1 (vs := [.slice p1_1.1 x1_1.length p1_1.2, .int .i64 3]) (by kernel_rfl) (by kernel_rfl) (by kernel_rfl) (by kernel_rfl) (by kernel_rfl) (by decide)
      ·refine J.condF (x := .tmp 43) (t := (decide ((IntKind.wrap .i64 ((x4_17.length : Int) + (a2.length : Int))) > 20000))) (by kernel_rfl) (by kernel_rfl) hc6 ?_
       refine J.skip (by kernel_rfl) ?_
       refine J.seq (by kernel_rfl) ?_
       obtain ⟨x6_3, hx6_3, H⟩ := bindE H
       obtain ⟨y6_4, hy6_4, H⟩ := bindE H
       have hy6_4a := (appE hy6_4).1
       refine J.region (by kernel_rfl) ?_
       refine O.e (some 45) (Ev.lit (t := 27) (len := 0) (parts := #[]) (ps := []) (cs := []) (e := 5) (Kd.int .u8) ([] : List Int) (by kernel_rfl) (by kernel_rfl) (by kernel_rfl) (by kernel_rfl) (by kernel_rfl) (by decide) (fun w' hφ => (Els.nil _ _ _))) (by kernel_rfl) (fun p6_0 => ?_)
       refine O.pure 2 [] [0, 1, 2, 45, 46, 47] [] (fr' := [(0, .slice p1_1.1 x1_1.length p1_1.2), (1, .string a1), (2, .slice h1.1 a2.length h1.2), (45, .slice ((some ⟨p6_0, 0, none⟩, 0) : Hd).1 ([] : List Int).length ((some ⟨p6_0, 0, none⟩, 0) : Hd).2), (46, .slice p1_1.1 x1_1.length p1_1.2), (47, .string a1)]) (bx' := []) (by kernel_rfl) ?_
       refine O.e (some 48) (Ev.call0 (xs := [.tmp 46, .tmp 47]) [1] (by kernel_rfl) (by kernel_rfl) (fun w hS => haywainref13_Get.con K x1_1 a1 p1_1  _ _ w hS hx6_3)) (by kernel_rfl) (fun p6_3 => ?_)
       refine O.e (some 49) (Ev.appSl (d := (Kd.int .u8)) (ys := x6_3) (A := p6_3.1) (c := p6_3.2) (x := .tmp 45) (y := .tmp 48) (t := 27) (bytes := 1) 0 (by kernel_rfl) (by kernel_rfl) (by kernel_rfl) rfl (by kernel_rfl) (by decide) hy6_4a) (by kernel_rfl) (fun p6_4 => ?_)
       refine O.pure 1 [] [0, 1, 2, 8] [] (fr' := [(0, .slice p1_1.1 x1_1.length p1_1.2), (1, .string a1), (2, .slice h1.1 a2.length h1.2), (8, .slice p6_4.1 (([] : List Int) ++ x6_3).length p6_4.2)]) (bx' := []) (by kernel_rfl) ?_
       refine O.nil (by kernel_rfl) ?_
       refine J.seq (by kernel_rfl) ?_
       obtain ⟨y7_4, hy7_4, H⟩ := bindE H
       have hy7_4a := (appE hy7_4).1
       obtain ⟨x7_7, hx7_7, H⟩ := bindE H
       obtain ⟨x7_9, hx7_9, H⟩ := bindE H
       refine J.region (by kernel_rfl) ?_
       refine O.pure 4 [] [0, 1, 50, 51, 52, 53] [] (fr' := [(0, .slice p1_1.1 x1_1.length p1_1.2), (1, .string a1), (50, .slice p1_1.1 x1_1.length p1_1.2), (51, .string a1), (52, .slice p6_4.1 (([] : List Int) ++ x6_3).length p6_4.2), (53, .slice h1.1 a2.length h1.2)]) (bx' := []) (by kernel_rfl) ?_
       refine O.e (some 54) (Ev.appSl (d := (Kd.int .u8)) (ys := a2) (A := h1.1) (c := h1.2) (x := .tmp 52) (y := .tmp 53) (t := 27) (bytes := 1) 4 (by kernel_rfl) (by kernel_rfl) (by kernel_rfl) rfl (by kernel_rfl) (by decide) hy7_4a) (by kernel_rfl) (fun p7_4 => ?_)
       refine O.pure 2 [] [50, 51, 54, 55, 56] [] (fr' := [(50, .slice p1_1.1 x1_1.length p1_1.2), (51, .string a1), (54, .slice p7_4.1 ((([] : List Int) ++ x6_3) ++ a2).length p7_4.2), (55, .slice p1_1.1 x1_1.length p1_1.2), (56, .string a1)]) (bx' := []) (by kernel_rfl) ?_
       refine O.e (some 57) (Ev.call0 (xs := [.tmp 55, .tmp 56]) [2] (by kernel_rfl) (by kernel_rfl) (fun w hS => haywainref13_safe.con K x1_1 a1 p1_1  _ _ w hS hx7_7)) (by kernel_rfl) (fun _ => ?_)
       refine O.pure 1 [] [50, 58] [] (fr' := [(50, .slice p1_1.1 x1_1.length p1_1.2), (58, .agg #[.string a1, .slice p7_4.1 ((([] : List Int) ++ x6_3) ++ a2).length p7_4.2, .int .i64 x7_7])]) (bx' := []) (by kernel_rfl) ?_
       refine O.e (some 59) (Ev.mono (fun w hS => hS.freezeH (h := p7_4) (xs := ((([] : List Int) ++ x6_3) ++ a2))) (Ev.call0 (xs := [.tmp 50, .tmp 58]) [3, 0] (by kernel_rfl) (by kernel_rfl) (fun w hS => haywainref13_with.con K x1_1 (⟨a1, ((([] : List Int) ++ x6_3) ++ a2), x7_7⟩ : S85) p1_1 p7_4  _ _ w hS hx7_9))) (by kernel_rfl) (fun p7_9 => ?_)
       refine O.pure 2 [] [6, 7] [] (fr' := [(6, .slice p7_9.1 x7_9.length p7_9.2), (7, .int .i64 0)]) (bx' := []) (by kernel_rfl) ?_
       refine O.nil (by kernel_rfl) ?_
       obtain rfl := Option.some.inj H
       refine J.mono (fun w hS => hS.freezeH (h := p7_9) (xs := x7_9)) ?_
       exact J.doneS [] [] [0] [] [] p7_9 (vs := [.slice p7_9.1 x7_9.length p7_9.2, .int .i64 0]) (by kernel_rfl) (by kernel_rfl) (by kernel_rfl) (by kernel_rfl) (by kernel_rfl) (by decide)
   ·rcases condE H with ⟨hc7, H⟩ | ⟨hc7, H⟩
    ·refine J.region (by kernel_rfl) ?_
     refine O.pure 2 [] [0, 1, 2, 20, 21] [] (fr' := [(0, .slice p1_1.1 x1_1.length p1_1.2), (1, .string a1), (2, .slice h1.1 a2.length h1.2), (20, .slice p1_1.1 x1_1.length p1_1.2), (21, .string a1)]) (bx' := []) (by kernel_rfl) ?_
     refine O.e (some 22) (Ev.call0 (xs := [.tmp 20, .tmp 21]) [0] (by kernel_rfl) (by kernel_rfl) (fun w hS => haywainref13_Has.con K x1_1 a1 p1_1  _ _ w hS hx4_2)) (by kernel_rfl) (fun _ => ?_)
     refine O.q (v := .bool false) (some 23) (Qu.eqv (u := .bool (!x4_2)) (v := .bool false) (0, 0) [] (by kernel_rfl) (congrArg Value.bool hc3)) (by kernel_rfl) ?_
     refine O.pure 8 [] [0, 1, 2, 29, 31] [] (fr' := [(0, .slice p1_1.1 x1_1.length p1_1.2), (1, .string a1), (2, .slice h1.1 a2.length h1.2), (29, .bool false), (31, .int .i64 (a2.length : Int))]) (bx' := []) (by kernel_rfl) ?_
     refine O.q (v := .bool true) (some 32) (Qu.eqv (u := .bool (decide ((a2.length : Int) > 20000))) (v := .bool true) (0, 0) [] (by kernel_rfl) (congrArg Value.bool hc7)) (by kernel_rfl) ?_
     refine O.pure 11 [] [0, 1, 2, 43] [] (fr' := [(0, .slice p1_1.1 x1_1.length p1_1.2), (1, .string a1), (2, .slice h1.1 a2.length h1.2), (43, .bool true)]) (bx' := []) (by kernel_rfl) ?_
     refine O.nil (by kernel_rfl) ?_
     refine J.cond (o := .tmp 43) true (by kernel_rfl) (by kernel_rfl) ?_
     refine J.seq (by kernel_rfl) ?_
     refine J.region (by kernel_rfl) ?_
     refine O.pure 3 [] [6, 7] [] (fr' := [(6, .slice p1_1.1 x1_1.length p1_1.2), (7, .int .i64 3)]) (bx' := []) (by kernel_rfl) ?_
     refine O.nil (by kernel_rfl) ?_
     obtain rfl := Option.some.inj H
     exact J.doneS [] [] [0] [] [] p1_1 (vs := [.slice p1_1.1 x1_1.length p1_1.2, .int .i64 3]) (by kernel_rfl) (by kernel_rfl) (by kernel_rfl) (by kernel_rfl) (by kernel_rfl) (by decide)
    ·obtain ⟨x4_17, hx4_17, H⟩ := bindE H
     refine J.region (by kernel_rfl) ?_
     refine O.pure 2 [] [0, 1, 2, 20, 21] [] (fr' := [(0, .slice p1_1.1 x1_1.length p1_1.2), (1, .string a1), (2, .slice h1.1 a2.length h1.2), (20, .slice p1_1.1 x1_1.length p1_1.2), (21, .string a1)]) (bx' := []) (by kernel_rfl) ?_
     refine O.e (some 22) (Ev.call0 (xs := [.tmp 20, .tmp 21]) [0] (by kernel_rfl) (by kernel_rfl) (fun w hS => haywainref13_Has.con K x1_1 a1 p1_1  _ _ w hS hx4_2)) (by kernel_rfl) (fun _ => ?_)
     refine O.q (v := .bool false) (some 23) (Qu.eqv (u := .bool (!x4_2)) (v := .bool false) (0, 0) [] (by kernel_rfl) (congrArg Value.bool hc3)) (by kernel_rfl) ?_
     refine O.pure 8 [] [0, 1, 2, 29, 31] [] (fr' := [(0, .slice p1_1.1 x1_1.length p1_1.2), (1, .string a1), (2, .slice h1.1 a2.length h1.2), (29, .bool false), (31, .int .i64 (a2.length : Int))]) (bx' := []) (by kernel_rfl) ?_
     refine O.q (v := .bool false) (some 32) (Qu.eqv (u := .bool (decide ((a2.length : Int) > 20000))) (v := .bool false) (0, 0) [] (by kernel_rfl) (congrArg Value.bool hc7)) (by kernel_rfl) ?_
     refine O.pure 4 [] [0, 1, 2, 34, 35, 36] [] (fr' := [(0, .slice p1_1.1 x1_1.length p1_1.2), (1, .string a1), (2, .slice h1.1 a2.length h1.2), (34, .bool false), (35, .slice p1_1.1 x1_1.length p1_1.2), (36, .string a1)]) (bx' := []) (by kernel_rfl) ?_
     refine O.e (some 37) (Ev.call0 (xs := [.tmp 35, .tmp 36]) [0] (by kernel_rfl) (by kernel_rfl) (fun w hS => haywainref13_Get.con K x1_1 a1 p1_1  _ _ w hS hx4_17)) (by kernel_rfl) (fun p4_17 => ?_)
     refine O.pure 6 [] [0, 1, 2, 43] [] (fr' := [(0, .slice p1_1.1 x1_1.length p1_1.2), (1, .string a1), (2, .slice h1.1 a2.length h1.2), (43, .bool (decide ((IntKind.wrap .i64 ((x4_17.length : Int) + (a2.length : Int))) > 20000)))]) (bx' := []) (by kernel_rfl) ?_
     refine O.nil (by kernel_rfl) ?_
     rcases condE H with ⟨hc8, H⟩ | ⟨hc8, H⟩
     ·refine J.condT (x := .tmp 43) (t := (decide ((IntKind.wrap .i64 ((x4_17.length : Int) + (a2.length : Int))) > 20000))) (by kernel_rfl) (by kernel_rfl) hc8 ?_
      refine J.seq (by kernel_rfl) ?_
      refine J.region (by kernel_rfl) ?_
      refine O.pure 3 [] [6, 7] [] (fr' := [(6, .slice p1_1.1 x1_1.length p1_1.2), (7, .int .i64 3)]) (bx' := []) (by kernel_rfl) ?_
      refine O.nil (by kernel_rfl) ?_
      obtain rfl := Option.some.inj H
      exact J.doneS [] [] [1] [] [] p1_1 (vs := [.slice p1_1.1 x1_1.length p1_1.2, .int .i64 3]) (by kernel_rfl) (by kernel_rfl) (by kernel_rfl) (by kernel_rfl) (by kernel_rfl) (by decide)
     ·refine J.condF (x := .tmp 43) (t := (decide ((IntKind.wrap .i64 ((x4_17.length : Int) + (a2.length : Int))) > 20000))) (by kernel_rfl) (by kernel_rfl) hc8 ?_
      refine J.skip (by kernel_rfl) ?_
      refine J.seq (by kernel_rfl) ?_
      obtain ⟨x6_3, hx6_3, H⟩ := bindE H
      obtain ⟨y6_4, hy6_4, H⟩ := bindE H
      have hy6_4a := (appE hy6_4).1
      refine J.region (by kernel_rfl) ?_
      refine O.e (some 45) (Ev.lit (t := 27) (len := 0) (parts := #[]) (ps := []) (cs := []) (e := 5) (Kd.int .u8) ([] : List Int) (by kernel_rfl) (by kernel_rfl) (by kernel_rfl) (by kernel_rfl) (by kernel_rfl) (by decide) (fun w' hφ => (Els.nil _ _ _))) (by kernel_rfl) (fun p6_0 => ?_)
      refine O.pure 2 [] [0, 1, 2, 45, 46, 47] [] (fr' := [(0, .slice p1_1.1 x1_1.length p1_1.2), (1, .string a1), (2, .slice h1.1 a2.length h1.2), (45, .slice ((some ⟨p6_0, 0, none⟩, 0) : Hd).1 ([] : List Int).length ((some ⟨p6_0, 0, none⟩, 0) : Hd).2), (46, .slice p1_1.1 x1_1.length p1_1.2), (47, .string a1)]) (bx' := []) (by kernel_rfl) ?_
      refine O.e (some 48) (Ev.call0 (xs := [.tmp 46, .tmp 47]) [1] (by kernel_rfl) (by kernel_rfl) (fun w hS => haywainref13_Get.con K x1_1 a1 p1_1  _ _ w hS hx6_3)) (by kernel_rfl) (fun p6_3 => ?_)
      refine O.e (some 49) (Ev.appSl (d := (Kd.int .u8)) (ys := x6_3) (A := p6_3.1) (c := p6_3.2) (x := .tmp 45) (y := .tmp 48) (t := 27) (bytes := 1) 0 (by kernel_rfl) (by kernel_rfl) (by kernel_rfl) rfl (by kernel_rfl) (by decide) hy6_4a) (by kernel_rfl) (fun p6_4 => ?_)
      refine O.pure 1 [] [0, 1, 2, 8] [] (fr' := [(0, .slice p1_1.1 x1_1.length p1_1.2), (1, .string a1), (2, .slice h1.1 a2.length h1.2), (8, .slice p6_4.1 (([] : List Int) ++ x6_3).length p6_4.2)]) (bx' := []) (by kernel_rfl) ?_
      refine O.nil (by kernel_rfl) ?_
      refine J.seq (by kernel_rfl) ?_
      obtain ⟨y7_4, hy7_4, H⟩ := bindE H
      have hy7_4a := (appE hy7_4).1
      obtain ⟨x7_7, hx7_7, H⟩ := bindE H
      obtain ⟨x7_9, hx7_9, H⟩ := bindE H
      refine J.region (by kernel_rfl) ?_
      refine O.pure 4 [] [0, 1, 50, 51, 52, 53] [] (fr' := [(0, .slice p1_1.1 x1_1.length p1_1.2), (1, .string a1), (50, .slice p1_1.1 x1_1.length p1_1.2), (51, .string a1), (52, .slice p6_4.1 (([] : List Int) ++ x6_3).length p6_4.2), (53, .slice h1.1 a2.length h1.2)]) (bx' := []) (by kernel_rfl) ?_
      refine O.e (some 54) (Ev.appSl (d := (Kd.int .u8)) (ys := a2) (A := h1.1) (c := h1.2) (x := .tmp 52) (y := .tmp 53) (t := 27) (bytes := 1) 4 (by kernel_rfl) (by kernel_rfl) (by kernel_rfl) rfl (by kernel_rfl) (by decide) hy7_4a) (by kernel_rfl) (fun p7_4 => ?_)
      refine O.pure 2 [] [50, 51, 54, 55, 56] [] (fr' := [(50, .slice p1_1.1 x1_1.length p1_1.2), (51, .string a1), (54, .slice p7_4.1 ((([] : List Int) ++ x6_3) ++ a2).length p7_4.2), (55, .slice p1_1.1 x1_1.length p1_1.2), (56, .string a1)]) (bx' := []) (by kernel_rfl) ?_
      refine O.e (some 57) (Ev.call0 (xs := [.tmp 55, .tmp 56]) [2] (by kernel_rfl) (by kernel_rfl) (fun w hS => haywainref13_safe.con K x1_1 a1 p1_1  _ _ w hS hx7_7)) (by kernel_rfl) (fun _ => ?_)
      refine O.pure 1 [] [50, 58] [] (fr' := [(50, .slice p1_1.1 x1_1.length p1_1.2), (58, .agg #[.string a1, .slice p7_4.1 ((([] : List Int) ++ x6_3) ++ a2).length p7_4.2, .int .i64 x7_7])]) (bx' := []) (by kernel_rfl) ?_
      refine O.e (some 59) (Ev.mono (fun w hS => hS.freezeH (h := p7_4) (xs := ((([] : List Int) ++ x6_3) ++ a2))) (Ev.call0 (xs := [.tmp 50, .tmp 58]) [3, 0] (by kernel_rfl) (by kernel_rfl) (fun w hS => haywainref13_with.con K x1_1 (⟨a1, ((([] : List Int) ++ x6_3) ++ a2), x7_7⟩ : S85) p1_1 p7_4  _ _ w hS hx7_9))) (by kernel_rfl) (fun p7_9 => ?_)
      refine O.pure 2 [] [6, 7] [] (fr' := [(6, .slice p7_9.1 x7_9.length p7_9.2), (7, .int .i64 0)]) (bx' := []) (by kernel_rfl) ?_
      refine O.nil (by kernel_rfl) ?_
      obtain rfl := Option.some.inj H
      refine J.mono (fun w hS => hS.freezeH (h := p7_9) (xs := x7_9)) ?_
      exact J.doneS [] [] [0] [] [] p7_9 (vs := [.slice p7_9.1 x7_9.length p7_9.2, .int .i64 0]) (by kernel_rfl) (by kernel_rfl) (by kernel_rfl) (by kernel_rfl) (by kernel_rfl) (by decide)
/-! ### haywain/haywainref13.Sync: function 70 -/
def haywainref13_Sync.f (K : Nat) (a0 : List S85) (a1 : ByteArray) : Option ((List S85) × Int) := (haywainref13_Good.f K a0).bind fun x1_1 => (haywainref13_Has.f K x1_1 a1).bind fun x2_2 => cond (!x2_2) (some ((x1_1, 4))) ((haywainref13_Get.f K x1_1 a1).bind fun x4_4 => (haywainref13_Get.f K x1_1 a1).bind fun x4_7 => (haywainref13_with.f K x1_1 (⟨a1, x4_4, (x4_7.length : Int)⟩ : S85)).bind fun x4_10 => some ((x4_10, 0)))
set_option maxRecDepth 100000 in
set_option maxHeartbeats 1000000 in
theorem haywainref13_Sync.con (K : Nat) (a0 : List S85) (a1 : ByteArray) (h0 : Hd) (r : ((List S85) × Int)) (X : Nat → Nat → Prop) (w : World) (hS : St X w [] [] [] [] [Rd kd85 h0.1 h0.2 a0] w) (H : haywainref13_Sync.f K a0 a1 = some r) :
    Cn Try.prog 70 [.slice h0.1 a0.length h0.2, .string a1] X w [] (fun i : Hd => .tuple #[.slice i.1 r.1.length i.2, .int .i64 r.2]) (fun i => []) (fun i => []) (fun i => [Rd kd85 i.1 i.2 r.1]) := by
 refine Cn.of Try.func70 (by kernel_rfl) hS ?_
 unfold haywainref13_Sync.f at H
 refine J.seq (by kernel_rfl) ?_
 refine J.region (by kernel_rfl) ?_
 refine O.pure 2 [] [0, 1] [] (fr' := [(0, .slice h0.1 a0.length h0.2), (1, .string a1)]) (bx' := []) (by kernel_rfl) ?_
 refine O.nil (by kernel_rfl) ?_
 refine J.seq (by kernel_rfl) ?_
 obtain ⟨x1_1, hx1_1, H⟩ := bindE H
 refine J.region (by kernel_rfl) ?_
 refine O.pure 1 [] [0, 1, 6] [] (fr' := [(0, .slice h0.1 a0.length h0.2), (1, .string a1), (6, .slice h0.1 a0.length h0.2)]) (bx' := []) (by kernel_rfl) ?_
 refine O.e (some 7) (Ev.call0 (xs := [.tmp 6]) [0] (by kernel_rfl) (by kernel_rfl) (fun w hS => haywainref13_Good.con K a0 h0  _ _ w hS hx1_1)) (by kernel_rfl) (fun p1_1 => ?_)
 refine O.pure 1 [] [0, 1] [] (fr' := [(0, .slice p1_1.1 x1_1.length p1_1.2), (1, .string a1)]) (bx' := []) (by kernel_rfl) ?_
 refine O.nil (by kernel_rfl) ?_
 refine J.seq (by kernel_rfl) ?_
 refine J.seq (by kernel_rfl) ?_
 obtain ⟨x2_2, hx2_2, H⟩ := bindE H
 refine J.region (by kernel_rfl) ?_
 refine O.pure 2 [] [0, 1, 8, 9] [] (fr' := [(0, .slice p1_1.1 x1_1.length p1_1.2), (1, .string a1), (8, .slice p1_1.1 x1_1.length p1_1.2), (9, .string a1)]) (bx' := []) (by kernel_rfl) ?_
 refine O.e (some 10) (Ev.call0 (xs := [.tmp 8, .tmp 9]) [0] (by kernel_rfl) (by kernel_rfl) (fun w hS => haywainref13_Has.con K x1_1 a1 p1_1  _ _ w hS hx2_2)) (by kernel_rfl) (fun _ => ?_)
 refine O.pure 1 [] [0, 1, 11] [] (fr' := [(0, .slice p1_1.1 x1_1.length p1_1.2), (1, .string a1), (11, .bool (!x2_2))]) (bx' := []) (by kernel_rfl) ?_
 refine O.nil (by kernel_rfl) ?_
 rcases condE H with ⟨hc1, H⟩ | ⟨hc1, H⟩
 ·refine J.condT (x := .tmp 11) (t := (!x2_2)) (by kernel_rfl) (by kernel_rfl) hc1 ?_
  refine J.seq (by kernel_rfl) ?_
  refine J.region (by kernel_rfl) ?_
  refine O.pure 3 [] [4, 5] [] (fr' := [(4, .slice p1_1.1 x1_1.length p1_1.2), (5, .int .i64 4)]) (bx' := []) (by kernel_rfl) ?_
  refine O.nil (by kernel_rfl) ?_
  obtain rfl := Option.some.inj H
  exact J.doneS [] [] [0] [] [] p1_1 (vs := [.slice p1_1.1 x1_1.length p1_1.2, .int .i64 4]) (by kernel_rfl) (by kernel_rfl) (by kernel_rfl) (by kernel_rfl) (by kernel_rfl) (by decide)
 ·refine J.condF (x := .tmp 11) (t := (!x2_2)) (by kernel_rfl) (by kernel_rfl) hc1 ?_
  refine J.skip (by kernel_rfl) ?_
  refine J.seq (by kernel_rfl) ?_
  obtain ⟨x4_4, hx4_4, H⟩ := bindE H
  obtain ⟨x4_7, hx4_7, H⟩ := bindE H
  obtain ⟨x4_10, hx4_10, H⟩ := bindE H
  refine J.region (by kernel_rfl) ?_
  refine O.pure 4 [] [0, 1, 13, 14, 15, 16] [] (fr' := [(0, .slice p1_1.1 x1_1.length p1_1.2), (1, .string a1), (13, .slice p1_1.1 x1_1.length p1_1.2), (14, .string a1), (15, .slice p1_1.1 x1_1.length p1_1.2), (16, .string a1)]) (bx' := []) (by kernel_rfl) ?_
  refine O.e (some 17) (Ev.call0 (xs := [.tmp 15, .tmp 16]) [0] (by kernel_rfl) (by kernel_rfl) (fun w hS => haywainref13_Get.con K x1_1 a1 p1_1  _ _ w hS hx4_4)) (by kernel_rfl) (fun p4_4 => ?_)
  refine O.pure 2 [] [13, 14, 17, 18, 19] [] (fr' := [(13, .slice p1_1.1 x1_1.length p1_1.2), (14, .string a1), (17, .slice p4_4.1 x4_4.length p4_4.2), (18, .slice p1_1.1 x1_1.length p1_1.2), (19, .string a1)]) (bx' := []) (by kernel_rfl) ?_
  refine O.e (some 20) (Ev.call0 (xs := [.tmp 18, .tmp 19]) [1] (by kernel_rfl) (by kernel_rfl) (fun w hS => haywainref13_Get.con K x1_1 a1 p1_1  _ _ w hS hx4_7)) (by kernel_rfl) (fun p4_7 => ?_)
  refine O.pure 2 [] [13, 22] [] (fr' := [(13, .slice p1_1.1 x1_1.length p1_1.2), (22, .agg #[.string a1, .slice p4_4.1 x4_4.length p4_4.2, .int .i64 (x4_7.length : Int)])]) (bx' := []) (by kernel_rfl) ?_
  refine O.e (some 23) (Ev.call0 (xs := [.tmp 13, .tmp 22]) [2, 1] (by kernel_rfl) (by kernel_rfl) (fun w hS => haywainref13_with.con K x1_1 (⟨a1, x4_4, (x4_7.length : Int)⟩ : S85) p1_1 p4_4  _ _ w hS hx4_10)) (by kernel_rfl) (fun p4_10 => ?_)
  refine O.pure 2 [] [4, 5] [] (fr' := [(4, .slice p4_10.1 x4_10.length p4_10.2), (5, .int .i64 0)]) (bx' := []) (by kernel_rfl) ?_
  refine O.nil (by kernel_rfl) ?_
  obtain rfl := Option.some.inj H
  refine J.mono (fun w hS => hS.freezeH (h := p4_10) (xs := x4_10)) ?_
  exact J.doneS [] [] [0] [] [] p4_10 (vs := [.slice p4_10.1 x4_10.length p4_10.2, .int .i64 0]) (by kernel_rfl) (by kernel_rfl) (by kernel_rfl) (by kernel_rfl) (by kernel_rfl) (by decide)
/-! ### haywain/haywainref14.one: function 49 -/
def haywainref14_one.f (K : Nat) (a0 : List S85) (a1 : S91) : Option ((List S85) × Int) := cond (a1.f0 == 1) ((haywainref13_Drop.f K a0 a1.f1).bind fun x3_3 => some ((x3_3.1, x3_3.2))) (cond (a1.f0 == 2) ((haywainref13_Put.f K a0 a1.f1 a1.f2).bind fun x5_5 => some ((x5_5.1, x5_5.2))) (cond (a1.f0 == 3) ((haywainref13_Sync.f K a0 a1.f1).bind fun x7_3 => some ((x7_3.1, x7_3.2))) (some ((a0, 1)))))
set_option maxRecDepth 100000 in
set_option maxHeartbeats 1000000 in
theorem haywainref14_one.con (K : Nat) (a0 : List S85) (a1 : S91) (h0 : Hd) (h1 : Hd) (r : ((List S85) × Int)) (X : Nat → Nat → Prop) (w : World) (hS : St X w [] [] [] [] [Rd kd85 h0.1 h0.2 a0, Rd (Kd.int .u8) h1.1 h1.2 a1.f2] w) (H : haywainref14_one.f K a0 a1 = some r) :
    Cn Try.prog 49 [.slice h0.1 a0.length h0.2, .agg #[.int .i64 a1.f0, .string a1.f1, .slice h1.1 a1.f2.length h1.2]] X w [] (fun i : Hd => .tuple #[.slice i.1 r.1.length i.2, .int .i64 r.2]) (fun i => []) (fun i => []) (fun i => [Rd kd85 i.1 i.2 r.1]) := by
 refine Cn.of Try.func49 (by kernel_rfl) hS ?_
 unfold haywainref14_one.f at H
 refine J.seq (by kernel_rfl) ?_
 refine J.region (by kernel_rfl) ?_
 refine O.e (some 3) (Ev.box (t := 91) (x := .tmp 1) (v := .agg #[.int .i64 a1.f0, .string a1.f1, .slice h1.1 a1.f2.length h1.2]) (by kernel_rfl) (by kernel_rfl)) (by kernel_rfl) (fun p0_0 => ?_)
 refine O.pure 2 [] [0, 3] [] (fr' := [(0, .slice h0.1 a0.length h0.2), (3, .pointer (some ⟨p0_0, 0, none⟩))]) (bx' := [⟨p0_0, [.int .i64 a1.f0, .string a1.f1, .slice h1.1 a1.f2.length h1.2], 91⟩]) (by kernel_rfl) ?_
 refine O.nil (by kernel_rfl) ?_
 refine J.seq (by kernel_rfl) ?_
 refine J.seq (by kernel_rfl) ?_
 refine J.region (by kernel_rfl) ?_
 refine O.pure 2 [(0, 0)] [0, 3, 7] [p0_0, 0] (fr' := [(0, .slice h0.1 a0.length h0.2), (3, .pointer (some ⟨p0_0, 0, none⟩)), (7, .int .i64 a1.f0)]) (bx' := [⟨p0_0, [.int .i64 a1.f0, .string a1.f1, .slice h1.1 a1.f2.length h1.2], 91⟩]) (by kernel_rfl) ?_
 refine O.nil (by kernel_rfl) ?_
 refine J.block (id := 0) (by kernel_rfl) ?_
 refine J.seq (by kernel_rfl) ?_
 refine J.region (by kernel_rfl) ?_
 refine O.pure 2 [] [0, 3, 7, 8] [] (fr' := [(0, .slice h0.1 a0.length h0.2), (3, .pointer (some ⟨p0_0, 0, none⟩)), (7, .int .i64 a1.f0), (8, .bool (a1.f0 == 1))]) (bx' := [⟨p0_0, [.int .i64 a1.f0, .string a1.f1, .slice h1.1 a1.f2.length h1.2], 91⟩]) (by kernel_rfl) ?_
 refine O.nil (by kernel_rfl) ?_
 rcases condE H with ⟨hc1, H⟩ | ⟨hc1, H⟩
 ·refine J.condT (x := .tmp 8) (t := (a1.f0 == 1)) (by kernel_rfl) (by kernel_rfl) hc1 ?_
  refine J.seq (by kernel_rfl) ?_
  obtain ⟨x3_3, hx3_3, H⟩ := bindE H
  refine J.region (by kernel_rfl) ?_
  refine O.pure 3 [(0, 1)] [10, 12] [p0_0, 1] (fr' := [(10, .slice h0.1 a0.length h0.2), (12, .string a1.f1)]) (bx' := [⟨p0_0, [.int .i64 a1.f0, .string a1.f1, .slice h1.1 a1.f2.length h1.2], 91⟩]) (by kernel_rfl) ?_
  refine O.e (some 13) (Ev.call0 (xs := [.tmp 10, .tmp 12]) [0] (by kernel_rfl) (by kernel_rfl) (fun w hS => haywainref13_Drop.con K a0 a1.f1 h0  _ _ w hS hx3_3)) (by kernel_rfl) (fun p3_3 => ?_)
  refine O.pure 4 [] [4, 5] [] (fr' := [(4, .slice p3_3.1 x3_3.1.length p3_3.2), (5, .int .i64 x3_3.2)]) (bx' := [⟨p0_0, [.int .i64 a1.f0, .string a1.f1, .slice h1.1 a1.f2.length h1.2], 91⟩]) (by kernel_rfl) ?_
  refine O.nil (by kernel_rfl) ?_
  obtain rfl := Option.some.inj H
  exact J.doneS [] [] [0] [] [] p3_3 (vs := [.slice p3_3.1 x3_3.1.length p3_3.2, .int .i64 x3_3.2]) (by kernel_rfl) (by kernel_rfl) (by kernel_rfl) (by kernel_rfl) (by kernel_rfl) (by decide)
 ·refine J.condF (x := .tmp 8) (t := (a1.f0 == 1)) (by kernel_rfl) (by kernel_rfl) hc1 ?_
  refine J.seq (by kernel_rfl) ?_
  refine J.region (by kernel_rfl) ?_
  refine O.pure 2 [] [0, 3, 7, 16] [] (fr' := [(0, .slice h0.1 a0.length h0.2), (3, .pointer (some ⟨p0_0, 0, none⟩)), (7, .int .i64 a1.f0), (16, .bool (a1.f0 == 2))]) (bx' := [⟨p0_0, [.int .i64 a1.f0, .string a1.f1, .slice h1.1 a1.f2.length h1.2], 91⟩]) (by kernel_rfl) ?_
  refine O.nil (by kernel_rfl) ?_
  rcases condE H with ⟨hc2, H⟩ | ⟨hc2, H⟩
  ·refine J.condT (x := .tmp 16) (t := (a1.f0 == 2)) (by kernel_rfl) (by kernel_rfl) hc2 ?_
   refine J.seq (by kernel_rfl) ?_
   obtain ⟨x5_5, hx5_5, H⟩ := bindE H
   refine J.region (by kernel_rfl) ?_
   refine O.pure 5 [(0, 1), (0, 2)] [18, 20, 22] [p0_0, 1, p0_0, 2] (fr' := [(18, .slice h0.1 a0.length h0.2), (20, .string a1.f1), (22, .slice h1.1 a1.f2.length h1.2)]) (bx' := [⟨p0_0, [.int .i64 a1.f0, .string a1.f1, .slice h1.1 a1.f2.length h1.2], 91⟩]) (by kernel_rfl) ?_
   refine O.e (some 23) (Ev.call0 (xs := [.tmp 18, .tmp 20, .tmp 22]) [0, 1] (by kernel_rfl) (by kernel_rfl) (fun w hS => haywainref13_Put.con K a0 a1.f1 a1.f2 h0 h1  _ _ w hS hx5_5)) (by kernel_rfl) (fun p5_5 => ?_)
   refine O.pure 4 [] [4, 5] [] (fr' := [(4, .slice p5_5.1 x5_5.1.length p5_5.2), (5, .int .i64 x5_5.2)]) (bx' := [⟨p0_0, [.int .i64 a1.f0, .string a1.f1, .slice h1.1 a1.f2.length h1.2], 91⟩]) (by kernel_rfl) ?_
   refine O.nil (by kernel_rfl) ?_
   obtain rfl := Option.some.inj H
   exact J.doneS [] [] [0] [] [] p5_5 (vs := [.slice p5_5.1 x5_5.1.length p5_5.2, .int .i64 x5_5.2]) (by kernel_rfl) (by kernel_rfl) (by kernel_rfl) (by kernel_rfl) (by kernel_rfl) (by decide)
  ·refine J.condF (x := .tmp 16) (t := (a1.f0 == 2)) (by kernel_rfl) (by kernel_rfl) hc2 ?_
   refine J.seq (by kernel_rfl) ?_
   refine J.region (by kernel_rfl) ?_
   refine O.pure 2 [] [0, 3, 26] [] (fr' := [(0, .slice h0.1 a0.length h0.2), (3, .pointer (some ⟨p0_0, 0, none⟩)), (26, .bool (a1.f0 == 3))]) (bx' := [⟨p0_0, [.int .i64 a1.f0, .string a1.f1, .slice h1.1 a1.f2.length h1.2], 91⟩]) (by kernel_rfl) ?_
   refine O.nil (by kernel_rfl) ?_
   rcases condE H with ⟨hc3, H⟩ | ⟨hc3, H⟩
   ·refine J.condT (x := .tmp 26) (t := (a1.f0 == 3)) (by kernel_rfl) (by kernel_rfl) hc3 ?_
    refine J.seq (by kernel_rfl) ?_
    obtain ⟨x7_3, hx7_3, H⟩ := bindE H
    refine J.region (by kernel_rfl) ?_
    refine O.pure 3 [(0, 1)] [28, 30] [p0_0, 1] (fr' := [(28, .slice h0.1 a0.length h0.2), (30, .string a1.f1)]) (bx' := [⟨p0_0, [.int .i64 a1.f0, .string a1.f1, .slice h1.1 a1.f2.length h1.2], 91⟩]) (by kernel_rfl) ?_
    refine O.e (some 31) (Ev.call0 (xs := [.tmp 28, .tmp 30]) [0] (by kernel_rfl) (by kernel_rfl) (fun w hS => haywainref13_Sync.con K a0 a1.f1 h0  _ _ w hS hx7_3)) (by kernel_rfl) (fun p7_3 => ?_)
    refine O.pure 4 [] [4, 5] [] (fr' := [(4, .slice p7_3.1 x7_3.1.length p7_3.2), (5, .int .i64 x7_3.2)]) (bx' := [⟨p0_0, [.int .i64 a1.f0, .string a1.f1, .slice h1.1 a1.f2.length h1.2], 91⟩]) (by kernel_rfl) ?_
    refine O.nil (by kernel_rfl) ?_
    obtain rfl := Option.some.inj H
    exact J.doneS [] [] [0] [] [] p7_3 (vs := [.slice p7_3.1 x7_3.1.length p7_3.2, .int .i64 x7_3.2]) (by kernel_rfl) (by kernel_rfl) (by kernel_rfl) (by kernel_rfl) (by kernel_rfl) (by decide)
   ·refine J.condF (x := .tmp 26) (t := (a1.f0 == 3)) (by kernel_rfl) (by kernel_rfl) hc3 ?_
    refine J.skip (by kernel_rfl) ?_
    refine J.out ?_
    refine J.seq (by kernel_rfl) ?_
    refine J.region (by kernel_rfl) ?_
    refine O.pure 3 [] [4, 5] [] (fr' := [(4, .slice h0.1 a0.length h0.2), (5, .int .i64 1)]) (bx' := [⟨p0_0, [.int .i64 a1.f0, .string a1.f1, .slice h1.1 a1.f2.length h1.2], 91⟩]) (by kernel_rfl) ?_
    refine O.nil (by kernel_rfl) ?_
    obtain rfl := Option.some.inj H
    exact J.doneS [] [] [0] [] [] h0 (vs := [.slice h0.1 a0.length h0.2, .int .i64 1]) (by kernel_rfl) (by kernel_rfl) (by kernel_rfl) (by kernel_rfl) (by kernel_rfl) (by decide)
/-! ### haywain/haywainref14.Do: function 22 -/
def haywainref14_Do.l1 (K : Nat) (a1 : List S91) (a2 : Int) : Nat → ((List S85) × Int) → Option ((List S85) × Int)
  | 0, _ => none
  | k + 1, s1 => cond (decide (s1.2 < (a1.length : Int))) (cond (decide (s1.2 ≥ a2)) (some ((s1.1, s1.2))) ((idxO a1 s1.2).bind fun x6_3 => (haywainref14_one.f K s1.1 x6_3).bind fun x6_5 => cond (x6_5.2 != 0) (some ((s1.1, s1.2))) (haywainref14_Do.l1 K a1 a2 k (x6_5.1, (IntKind.wrap .i64 (s1.2 + 1)))))) (some ((s1.1, (a1.length : Int))))
def haywainref14_Do.f (K : Nat) (a0 : List S85) (a1 : List S91) (a2 : Int) : Option ((List S85) × Int) := haywainref14_Do.l1 K a1 a2 K (a0, 0)
set_option maxRecDepth 100000 in
set_option maxHeartbeats 1000000 in
theorem haywainref14_Do.con (K : Nat) (a0 : List S85) (a1 : List S91) (a2 : Int) (h0 : Hd) (h1 : Hd) (r : ((List S85) × Int)) (X : Nat → Nat → Prop) (w : World) (hS : St X w [] [] [] [] [Rd kd85 h0.1 h0.2 a0, Rd kd91 h1.1 h1.2 a1] w) (H : haywainref14_Do.f K a0 a1 a2 = some r) :
    Cn Try.prog 22 [.slice h0.1 a0.length h0.2, .slice h1.1 a1.length h1.2, .int .i64 a2] X w [] (fun i : Hd => .tuple #[.slice i.1 r.1.length i.2, .int .i64 r.2]) (fun i => []) (fun i => []) (fun i => [Rd kd85 i.1 i.2 r.1]) := by
 refine Cn.of Try.func22 (by kernel_rfl) hS ?_
 unfold haywainref14_Do.f at H
 refine J.seq (by kernel_rfl) ?_
 refine J.region (by kernel_rfl) ?_
 refine O.pure 2 [] [0, 1, 2] [] (fr' := [(0, .slice h0.1 a0.length h0.2), (1, .slice h1.1 a1.length h1.2), (2, .int .i64 a2)]) (bx' := []) (by kernel_rfl) ?_
 refine O.nil (by kernel_rfl) ?_
 refine J.seq (by kernel_rfl) ?_
 refine J.seq (by kernel_rfl) ?_
 refine J.region (by kernel_rfl) ?_
 refine O.pure 1 [] [0, 1, 2, 8] [] (fr' := [(0, .slice h0.1 a0.length h0.2), (1, .slice h1.1 a1.length h1.2), (2, .int .i64 a2), (8, .int .i64 0)]) (bx' := []) (by kernel_rfl) ?_
 refine O.nil (by kernel_rfl) ?_
 refine J.block (id := 0) (by kernel_rfl) ?_
 refine J.loopI (σ := (List S85) × Int) (γ := Hd) (f := fun m_ s_ => haywainref14_Do.l1 K a1 a2 m_ s_) (fun s1 g1 => [(0, .slice g1.1 s1.1.length g1.2), (1, .slice h1.1 a1.length h1.2), (2, .int .i64 a2), (8, .int .i64 s1.2)]) (fun s1 g1 => St X w [] [] [] [] [Rd kd85 g1.1 g1.2 s1.1, Rd kd85 h0.1 h0.2 a0, Rd kd91 h1.1 h1.2 a1]) K (a0, 0) h0 (by kernel_rfl) H (fun _ => rfl) (fun m_ s1 H ih1 g1 => ?_) (fun h_ => ?_)
 ·unfold haywainref14_Do.l1 at H
  refine J.seq (by kernel_rfl) ?_
  refine J.seq (by kernel_rfl) ?_
  refine J.region (by kernel_rfl) ?_
  refine O.pure 4 [] [0, 1, 2, 8, 14] [] (fr' := [(0, .slice g1.1 s1.1.length g1.2), (1, .slice h1.1 a1.length h1.2), (2, .int .i64 a2), (8, .int .i64 s1.2), (14, .bool (decide (s1.2 < (a1.length : Int))))]) (bx' := []) (by kernel_rfl) ?_
  refine O.nil (by kernel_rfl) ?_
  rcases condE H with ⟨hc8, H⟩ | ⟨hc8, H⟩
  ·refine J.condT (x := .tmp 14) (t := (decide (s1.2 < (a1.length : Int)))) (by kernel_rfl) (by kernel_rfl) hc8 ?_
   refine J.skip (by kernel_rfl) ?_
   refine J.seq (by kernel_rfl) ?_
   refine J.block (id := 1) (by kernel_rfl) ?_
   refine J.seq (by kernel_rfl) ?_
   refine J.seq (by kernel_rfl) ?_
   refine J.region (by kernel_rfl) ?_
   refine O.pure 3 [] [0, 1, 2, 8, 19] [] (fr' := [(0, .slice g1.1 s1.1.length g1.2), (1, .slice h1.1 a1.length h1.2), (2, .int .i64 a2), (8, .int .i64 s1.2), (19, .bool (decide (s1.2 ≥ a2)))]) (bx' := []) (by kernel_rfl) ?_
   refine O.nil (by kernel_rfl) ?_
   rcases condE H with ⟨hc9, H⟩ | ⟨hc9, H⟩
   ·refine J.condT (x := .tmp 19) (t := (decide (s1.2 ≥ a2))) (by kernel_rfl) (by kernel_rfl) hc9 ?_
    refine J.seq (by kernel_rfl) ?_
    refine J.region (by kernel_rfl) ?_
    refine O.pure 4 [] [6, 7] [] (fr' := [(6, .slice g1.1 s1.1.length g1.2), (7, .int .i64 s1.2)]) (bx' := []) (by kernel_rfl) ?_
    refine O.nil (by kernel_rfl) ?_
    obtain rfl := Option.some.inj H
    exact J.doneS [] [] [0] [] [] g1 (vs := [.slice g1.1 s1.1.length g1.2, .int .i64 s1.2]) (by kernel_rfl) (by kernel_rfl) (by kernel_rfl) (by kernel_rfl) (by kernel_rfl) (by decide)
   ·refine J.condF (x := .tmp 19) (t := (decide (s1.2 ≥ a2))) (by kernel_rfl) (by kernel_rfl) hc9 ?_
    refine J.skip (by kernel_rfl) ?_
    refine J.seq (by kernel_rfl) ?_
    obtain ⟨x6_3, hx6_3, H⟩ := bindE H
    obtain ⟨hx6_3a, hx6_3⟩ := idxE hx6_3
    obtain ⟨x6_5, hx6_5, H⟩ := bindE H
    refine J.region (by kernel_rfl) ?_
    refine O.pure 3 [] [0, 1, 2, 8, 23, 24, 25] [] (fr' := [(0, .slice g1.1 s1.1.length g1.2), (1, .slice h1.1 a1.length h1.2), (2, .int .i64 a2), (8, .int .i64 s1.2), (23, .slice g1.1 s1.1.length g1.2), (24, .slice h1.1 a1.length h1.2), (25, .int .i64 s1.2)]) (bx' := []) (by kernel_rfl) ?_
    refine O.open (d := kd91) (h := h1) (i := s1.2) 2 rfl hx6_3 (op91 _) (fun p6_3 hp6_3A => ?_)
    refine O.q (v := .pointer (some ⟨p6_3.1, p6_3.2.1 + s1.2.toNat * 3, none⟩)) (some 26) (Qu.idx (t := 40) (x := .tmp 24) (y := .tmp 25) (c := h1.2) (kk := .i64) (sz := 3) (by kernel_rfl) (by kernel_rfl) (by kernel_rfl) (by kernel_rfl) hx6_3a (idx_lt hx6_3) hp6_3A) (by kernel_rfl) ?_
    refine O.pure 1 [(0, 0)] [0, 1, 2, 8, 23, 27] [p6_3.1, p6_3.2.1 + s1.2.toNat * 3] (fr' := [(0, .slice g1.1 s1.1.length g1.2), (1, .slice h1.1 a1.length h1.2), (2, .int .i64 a2), (8, .int .i64 s1.2), (23, .slice g1.1 s1.1.length g1.2), (27, .agg #[.int .i64 x6_3.f0, .string x6_3.f1, .slice p6_3.2.2.1 x6_3.f2.length p6_3.2.2.2])]) (bx' := []) (by kernel_rfl) ?_
    refine O.e (some 28) (Ev.call0 (xs := [.tmp 23, .tmp 27]) [1, 0] (by kernel_rfl) (by kernel_rfl) (fun w hS => haywainref14_one.con K s1.1 x6_3 g1 p6_3.2.2  _ _ w hS hx6_5)) (by kernel_rfl) (fun p6_5 => ?_)
    refine O.pure 5 [] [0, 1, 2, 8, 9, 10] [] (fr' := [(0, .slice g1.1 s1.1.length g1.2), (1, .slice h1.1 a1.length h1.2), (2, .int .i64 a2), (8, .int .i64 s1.2), (9, .slice p6_5.1 x6_5.1.length p6_5.2), (10, .int .i64 x6_5.2)]) (bx' := []) (by kernel_rfl) ?_
    refine O.nil (by kernel_rfl) ?_
    refine J.seq (by kernel_rfl) ?_
    refine J.seq (by kernel_rfl) ?_
    refine J.region (by kernel_rfl) ?_
    refine O.pure 2 [] [0, 1, 2, 8, 9, 32] [] (fr' := [(0, .slice g1.1 s1.1.length g1.2), (1, .slice h1.1 a1.length h1.2), (2, .int .i64 a2), (8, .int .i64 s1.2), (9, .slice p6_5.1 x6_5.1.length p6_5.2), (32, .bool (x6_5.2 != 0))]) (bx' := []) (by kernel_rfl) ?_
    refine O.nil (by kernel_rfl) ?_
    rcases condE H with ⟨hc10, H⟩ | ⟨hc10, H⟩
    ·refine J.condT (x := .tmp 32) (t := (x6_5.2 != 0)) (by kernel_rfl) (by kernel_rfl) hc10 ?_
     refine J.seq (by kernel_rfl) ?_
     refine J.region (by kernel_rfl) ?_
     refine O.pure 4 [] [6, 7] [] (fr' := [(6, .slice g1.1 s1.1.length g1.2), (7, .int .i64 s1.2)]) (bx' := []) (by kernel_rfl) ?_
     refine O.nil (by kernel_rfl) ?_
     obtain rfl := Option.some.inj H
     exact J.doneS [] [] [2] [] [] g1 (vs := [.slice g1.1 s1.1.length g1.2, .int .i64 s1.2]) (by kernel_rfl) (by kernel_rfl) (by kernel_rfl) (by kernel_rfl) (by kernel_rfl) (by decide)
    ·refine J.condF (x := .tmp 32) (t := (x6_5.2 != 0)) (by kernel_rfl) (by kernel_rfl) hc10 ?_
     refine J.skip (by kernel_rfl) ?_
     refine J.region (by kernel_rfl) ?_
     refine O.pure 2 [] [0, 1, 2, 8] [] (fr' := [(0, .slice p6_5.1 x6_5.1.length p6_5.2), (1, .slice h1.1 a1.length h1.2), (2, .int .i64 a2), (8, .int .i64 s1.2)]) (bx' := []) (by kernel_rfl) ?_
     refine O.nil (by kernel_rfl) ?_
     refine J.out ?_
     refine J.region (by kernel_rfl) ?_
     refine O.pure 3 [] [0, 1, 2, 8] [] (fr' := [(0, .slice p6_5.1 x6_5.1.length p6_5.2), (1, .slice h1.1 a1.length h1.2), (2, .int .i64 a2), (8, .int .i64 (IntKind.wrap .i64 (s1.2 + 1)))]) (bx' := []) (by kernel_rfl) ?_
     refine O.nil (by kernel_rfl) ?_
     exact J.conv2 [0, 1, 2, 8] [0, 3, 4] [] [] (by kernel_rfl) (by kernel_rfl) (by kernel_rfl) (by kernel_rfl) (by decide) (ih1 (x6_5.1, (IntKind.wrap .i64 (s1.2 + 1))) p6_5 H)
  ·refine J.condF (x := .tmp 14) (t := (decide (s1.2 < (a1.length : Int)))) (by kernel_rfl) (by kernel_rfl) hc8 ?_
   refine J.exit (id := 0) (by kernel_rfl) rfl ?_
   refine J.seq (by kernel_rfl) ?_
   refine J.region (by kernel_rfl) ?_
   refine O.pure 5 [] [6, 7] [] (fr' := [(6, .slice g1.1 s1.1.length g1.2), (7, .int .i64 (a1.length : Int))]) (bx' := []) (by kernel_rfl) ?_
   refine O.nil (by kernel_rfl) ?_
   obtain rfl := Option.some.inj H
   exact J.doneS [] [] [0] [] [] g1 (vs := [.slice g1.1 s1.1.length g1.2, .int .i64 (a1.length : Int)]) (by kernel_rfl) (by kernel_rfl) (by kernel_rfl) (by kernel_rfl) (by kernel_rfl) (by decide)
 ·exact J.conv2 [0, 1, 2, 8] [0, 0, 1] [] [] (by kernel_rfl) (by kernel_rfl) (by kernel_rfl) (by kernel_rfl) (by decide) h_
/-! ### haywain/haywainref13.Same: function 23 -/
def haywainref13_Same.l2 (K : Nat) (a0 : List S85) (a1 : List S85) : Nat → Int → Option Bool
  | 0, _ => none
  | k + 1, s2 => cond (decide (s2 < (a0.length : Int))) ((idxO a0 s2).bind fun x6_2 => (idxO a1 s2).bind fun x6_7 => cond (!(x6_2.f0.toList == x6_7.f0.toList)) (some (false)) ((idxO a0 s2).bind fun x6_14 => (idxO a1 s2).bind fun x6_20 => cond (!((strOfNums x6_14.f1).toList == (strOfNums x6_20.f1).toList)) (some (false)) ((idxO a0 s2).bind fun x6_29 => (idxO a1 s2).bind fun x6_34 => cond (x6_29.f2 != x6_34.f2) (some (false)) (haywainref13_Same.l2 K a0 a1 k (IntKind.wrap .i64 (s2 + 1)))))) (some (true))
def haywainref13_Same.f (K : Nat) (a0 : List S85) (a1 : List S85) : Option Bool := cond ((a0.length : Int) != (a1.length : Int)) (some (false)) (haywainref13_Same.l2 K a0 a1 K 0)
set_option maxRecDepth 100000 in
set_option maxHeartbeats 1000000 in
theorem haywainref13_Same.con (K : Nat) (a0 : List S85) (a1 : List S85) (h0 : Hd) (h1 : Hd) (r : Bool) (X : Nat → Nat → Prop) (w : World) (hS : St X w [] [] [] [] [Rd kd85 h0.1 h0.2 a0, Rd kd85 h1.1 h1.2 a1] w) (H : haywainref13_Same.f K a0 a1 = some r) :
    Cn Try.prog 23 [.slice h0.1 a0.length h0.2, .slice h1.1 a1.length h1.2] X w [] (fun i : Unit => .bool r) (fun i => []) (fun i => []) (fun i => []) := by
 refine Cn.of Try.func23 (by kernel_rfl) hS ?_
 unfold haywainref13_Same.f at H
 refine J.seq (by kernel_rfl) ?_
 refine J.region (by kernel_rfl) ?_
 refine O.pure 1 [] [0, 1] [] (fr' := [(0, .slice h0.1 a0.length h0.2), (1, .slice h1.1 a1.length h1.2)]) (bx' := []) (by kernel_rfl) ?_
 refine O.nil (by kernel_rfl) ?_
 refine J.seq (by kernel_rfl) ?_
 refine J.seq (by kernel_rfl) ?_
 refine J.region (by kernel_rfl) ?_
 refine O.pure 5 [] [0, 1, 10] [] (fr' := [(0, .slice h0.1 a0.length h0.2), (1, .slice h1.1 a1.length h1.2), (10, .bool ((a0.length : Int) != (a1.length : Int)))]) (bx' := []) (by kernel_rfl) ?_
 refine O.nil (by kernel_rfl) ?_
 rcases condE H with ⟨hc1, H⟩ | ⟨hc1, H⟩
 ·refine J.condT (x := .tmp 10) (t := ((a0.length : Int) != (a1.length : Int))) (by kernel_rfl) (by kernel_rfl) hc1 ?_
  refine J.seq (by kernel_rfl) ?_
  refine J.region (by kernel_rfl) ?_
  refine O.pure 1 [] [4] [] (fr' := [(4, .bool false)]) (bx' := []) (by kernel_rfl) ?_
  refine O.nil (by kernel_rfl) ?_
  obtain rfl := Option.some.inj H
  exact J.doneS [] [] [] [] [] () (vs := [.bool false]) (by kernel_rfl) (by kernel_rfl) (by kernel_rfl) (by kernel_rfl) (by kernel_rfl) (by decide)
 ·refine J.condF (x := .tmp 10) (t := ((a0.length : Int) != (a1.length : Int))) (by kernel_rfl) (by kernel_rfl) hc1 ?_
  refine J.skip (by kernel_rfl) ?_
  refine J.seq (by kernel_rfl) ?_
  refine J.seq (by kernel_rfl) ?_
  refine J.region (by kernel_rfl) ?_
  refine O.pure 1 [] [0, 1, 5] [] (fr' := [(0, .slice h0.1 a0.length h0.2), (1, .slice h1.1 a1.length h1.2), (5, .int .i64 0)]) (bx' := []) (by kernel_rfl) ?_
  refine O.nil (by kernel_rfl) ?_
  refine J.block (id := 0) (by kernel_rfl) ?_
  refine J.loopI (σ := Int) (γ := Unit) (f := fun m_ s_ => haywainref13_Same.l2 K a0 a1 m_ s_) (fun s2 g2 => [(0, .slice h0.1 a0.length h0.2), (1, .slice h1.1 a1.length h1.2), (5, .int .i64 s2)]) (fun s2 g2 => St X w [] [] [] [] [Rd kd85 h0.1 h0.2 a0, Rd kd85 h1.1 h1.2 a1]) K 0 () (by kernel_rfl) H (fun _ => rfl) (fun m_ s2 H ih2 g2 => ?_) (fun h_ => ?_)
  ·unfold haywainref13_Same.l2 at H
   refine J.seq (by kernel_rfl) ?_
   refine J.seq (by kernel_rfl) ?_
   refine J.region (by kernel_rfl) ?_
   refine O.pure 4 [] [0, 1, 5, 14] [] (fr' := [(0, .slice h0.1 a0.length h0.2), (1, .slice h1.1 a1.length h1.2), (5, .int .i64 s2), (14, .bool (decide (s2 < (a0.length : Int))))]) (bx' := []) (by kernel_rfl) ?_
   refine O.nil (by kernel_rfl) ?_
   rcases condE H with ⟨hc11, H⟩ | ⟨hc11, H⟩
   ·refine J.condT (x := .tmp 14) (t := (decide (s2 < (a0.length : Int)))) (by kernel_rfl) (by kernel_rfl) hc11 ?_
    refine J.skip (by kernel_rfl) ?_
    refine J.seq (by kernel_rfl) ?_
    refine J.block (id := 1) (by kernel_rfl) ?_
    refine J.seq (by kernel_rfl) ?_
    obtain ⟨x6_2, hx6_2, H⟩ := bindE H
    obtain ⟨hx6_2a, hx6_2⟩ := idxE hx6_2
    obtain ⟨x6_7, hx6_7, H⟩ := bindE H
    obtain ⟨hx6_7a, hx6_7⟩ := idxE hx6_7
    rcases condE H with ⟨hc12, H⟩ | ⟨hc12, H⟩
    ·refine J.open (d := kd85) (h := h0) (i := s2) 0 rfl hx6_2 (op85 _) (fun p6_2 hp6_2A => ?_)
     refine J.open (d := kd85) (h := h1) (i := s2) 2 rfl hx6_7 (op85 _) (fun p6_7 hp6_7A => ?_)
     refine J.drawS (by kernel_rfl) [(0, some 17, .slice h0.1 a0.length h0.2), (1, some 18, .int .i64 s2), (3, some 20, .pointer (some ⟨p6_2.1, p6_2.2.1 + s2.toNat * 3, none⟩)), (4, some 21, .string x6_2.f0), (5, some 22, .slice h1.1 a1.length h1.2), (6, some 23, .int .i64 s2), (8, some 25, .pointer (some ⟨p6_7.1, p6_7.2.1 + s2.toNat * 3, none⟩)), (9, some 26, .string x6_7.f0), (11, some 28, .bool true), (12, some 29, undef), (13, some 30, undef), (14, some 31, undef), (15, some 32, undef), (16, some 33, undef), (17, some 34, undef), (18, some 35, undef), (19, some 36, undef), (20, some 37, undef), (21, some 38, undef), (22, some 39, undef), (23, some 40, undef), (24, some 41, undef), (25, some 42, .bool true), (26, some 43, .bool true), (27, some 44, undef), (28, some 45, undef), (29, some 46, undef), (30, some 47, undef), (31, some 48, undef), (32, some 49, undef), (33, some 50, undef), (34, some 51, undef), (35, some 52, undef), (36, some 53, undef), (37, some 54, undef), (38, some 55, .bool true), (2, some 19, .pointer (some ⟨p6_2.1, p6_2.2.1 + s2.toNat * 3, none⟩)), (7, some 24, .pointer (some ⟨p6_7.1, p6_7.2.1 + s2.toNat * 3, none⟩)), (10, some 27, .bool true)] ([0, 1, 3, 4, 5, 6, 8, 9, 11, 12, 13, 14, 15, 16, 17, 18, 19, 20, 21, 22, 23, 24, 25, 26, 27, 28, 29, 30, 31, 32, 33, 34, 35, 36, 37, 38] ++ [2, 7, 10]) (by kernel_rfl) ?_
     refine D.fin (fr' := [(0, .slice h0.1 a0.length h0.2), (1, .slice h1.1 a1.length h1.2), (5, .int .i64 s2), (29, undef), (30, undef), (31, undef), (32, undef), (33, undef), (34, undef), (35, undef), (36, undef), (37, undef), (38, undef), (39, undef), (40, undef), (41, undef), (44, undef), (45, undef), (46, undef), (47, undef), (48, undef), (49, undef), (50, undef), (51, undef), (52, undef), (53, undef), (54, undef), (55, .bool true)]) [0, 1, 3, 4, 5, 6, 8, 9, 11, 12, 13, 14, 15, 16, 17, 18, 19, 20, 21, 22, 23, 24, 25, 26, 27, 28, 29, 30, 31, 32, 33, 34, 35, 36, 37, 38] [2, 7, 10] [(1, 0), (0, 0)] [p6_2.1, p6_2.2.1 + s2.toNat * 3, p6_7.1, p6_7.2.1 + s2.toNat * 3] [0, 1, 5, 29, 30, 31, 32, 33, 34, 35, 36, 37, 38, 39, 40, 41, 44, 45, 46, 47, 48, 49, 50, 51, 52, 53, 54, 55] (by kernel_rfl) (by kernel_rfl) (⟨QuAt.mk (v := .pointer (some ⟨p6_2.1, p6_2.2.1 + s2.toNat * 3, none⟩)) (some 19) (by kernel_rfl) (by kernel_rfl) (Qu.idx (t := 33) (x := .tmp 17) (y := .tmp 18) (c := h0.2) (kk := .i64) (sz := 3) (by kernel_rfl) (by kernel_rfl) (by kernel_rfl) (by kernel_rfl) hx6_2a (idx_lt hx6_2) hp6_2A), QuAt.mk (v := .pointer (some ⟨p6_7.1, p6_7.2.1 + s2.toNat * 3, none⟩)) (some 24) (by kernel_rfl) (by kernel_rfl) (Qu.idx (t := 33) (x := .tmp 22) (y := .tmp 23) (c := h1.2) (kk := .i64) (sz := 3) (by kernel_rfl) (by kernel_rfl) (by kernel_rfl) (by kernel_rfl) hx6_7a (idx_lt hx6_7) hp6_7A), QuAt.mk (v := .bool true) (some 27) (by kernel_rfl) (by kernel_rfl) (Qu.eqv (u := .bool (!(x6_2.f0.toList == x6_7.f0.toList))) (v := .bool true) (0, 0) [] (by kernel_rfl) (congrArg Value.bool hc12)), trivial⟩) (by kernel_rfl) ?_
     refine J.cond (o := .tmp 55) true (by kernel_rfl) (by kernel_rfl) ?_
     refine J.seq (by kernel_rfl) ?_
     refine J.region (by kernel_rfl) ?_
     refine O.pure 1 [] [4] [] (fr' := [(4, .bool false)]) (bx' := []) (by kernel_rfl) ?_
     refine O.nil (by kernel_rfl) ?_
     obtain rfl := Option.some.inj H
     exact J.doneS [] [] [] [] [] () (vs := [.bool false]) (by kernel_rfl) (by kernel_rfl) (by kernel_rfl) (by kernel_rfl) (by kernel_rfl) (by decide)
    ·obtain ⟨x6_14, hx6_14, H⟩ := bindE H
     obtain ⟨hx6_14a, hx6_14⟩ := idxE hx6_14
     obtain ⟨x6_20, hx6_20, H⟩ := bindE H
     obtain ⟨hx6_20a, hx6_20⟩ := idxE hx6_20
     rcases condE H with ⟨hc13, H⟩ | ⟨hc13, H⟩
     ·refine J.open (d := kd85) (h := h0) (i := s2) 0 rfl hx6_2 (op85 _) (fun p6_2 hp6_2A => ?_)
      refine J.open (d := kd85) (h := h1) (i := s2) 2 rfl hx6_7 (op85 _) (fun p6_7 hp6_7A => ?_)
      refine J.open (d := kd85) (h := h0) (i := s2) 2 rfl hx6_14 (op85 _) (fun p6_14 hp6_14A => ?_)
      refine J.open (d := kd85) (h := h1) (i := s2) 4 rfl hx6_20 (op85 _) (fun p6_20 hp6_20A => ?_)
      refine J.drawS (by kernel_rfl) [(0, some 17, .slice h0.1 a0.length h0.2), (1, some 18, .int .i64 s2), (3, some 20, .pointer (some ⟨p6_2.1, p6_2.2.1 + s2.toNat * 3, none⟩)), (4, some 21, .string x6_2.f0), (5, some 22, .slice h1.1 a1.length h1.2), (6, some 23, .int .i64 s2), (8, some 25, .pointer (some ⟨p6_7.1, p6_7.2.1 + s2.toNat * 3, none⟩)), (9, some 26, .string x6_7.f0), (11, some 28, .bool false), (12, some 29, .slice h0.1 a0.length h0.2), (13, some 30, .int .i64 s2), (15, some 32, .pointer (some ⟨p6_14.1, p6_14.2.1 + s2.toNat * 3 + 1, none⟩)), (16, some 33, .slice p6_14.2.2.1 x6_14.f1.length p6_14.2.2.2), (18, some 35, .slice h1.1 a1.length h1.2), (19, some 36, .int .i64 s2), (21, some 38, .pointer (some ⟨p6_20.1, p6_20.2.1 + s2.toNat * 3 + 1, none⟩)), (22, some 39, .slice p6_20.2.2.1 x6_20.f1.length p6_20.2.2.2), (25, some 42, .bool true), (26, some 43, .bool true), (27, some 44, undef), (28, some 45, undef), (29, some 46, undef), (30, some 47, undef), (31, some 48, undef), (32, some 49, undef), (33, some 50, undef), (34, some 51, undef), (35, some 52, undef), (36, some 53, undef), (37, some 54, undef), (38, some 55, .bool true), (2, some 19, .pointer (some ⟨p6_2.1, p6_2.2.1 + s2.toNat * 3, none⟩)), (7, some 24, .pointer (some ⟨p6_7.1, p6_7.2.1 + s2.toNat * 3, none⟩)), (10, some 27, .bool false), (14, some 31, .pointer (some ⟨p6_14.1, p6_14.2.1 + s2.toNat * 3, none⟩)), (17, some 34, .string (strOfNums x6_14.f1)), (20, some 37, .pointer (some ⟨p6_20.1, p6_20.2.1 + s2.toNat * 3, none⟩)), (23, some 40, .string (strOfNums x6_20.f1)), (24, some 41, .bool true)] ([0, 1, 3, 4, 5, 6, 8, 9, 11, 12, 13, 15, 16, 18, 19, 21, 22, 25, 26, 27, 28, 29, 30, 31, 32, 33, 34, 35, 36, 37, 38] ++ [2, 7, 10, 14, 17, 20, 23, 24]) (by kernel_rfl) ?_
      refine D.fin (fr' := [(0, .slice h0.1 a0.length h0.2), (1, .slice h1.1 a1.length h1.2), (5, .int .i64 s2), (29, .slice h0.1 a0.length h0.2), (30, .int .i64 s2), (31, .pointer (some ⟨p6_14.1, p6_14.2.1 + s2.toNat * 3, none⟩)), (32, .pointer (some ⟨p6_14.1, p6_14.2.1 + s2.toNat * 3 + 1, none⟩)), (33, .slice p6_14.2.2.1 x6_14.f1.length p6_14.2.2.2), (34, .string (strOfNums x6_14.f1)), (35, .slice h1.1 a1.length h1.2), (36, .int .i64 s2), (37, .pointer (some ⟨p6_20.1, p6_20.2.1 + s2.toNat * 3, none⟩)), (38, .pointer (some ⟨p6_20.1, p6_20.2.1 + s2.toNat * 3 + 1, none⟩)), (39, .slice p6_20.2.2.1 x6_20.f1.length p6_20.2.2.2), (40, .string (strOfNums x6_20.f1)), (41, .bool true), (44, undef), (45, undef), (46, undef), (47, undef), (48, undef), (49, undef), (50, undef), (51, undef), (52, undef), (53, undef), (54, undef), (55, .bool true)]) [0, 1, 3, 4, 5, 6, 8, 9, 11, 12, 13, 15, 16, 18, 19, 21, 22, 25, 26, 27, 28, 29, 30, 31, 32, 33, 34, 35, 36, 37, 38] [2, 7, 10, 14, 17, 20, 23, 24] [(3, 0), (2, 0), (1, 1), (0, 1)] [p6_2.1, p6_2.2.1 + s2.toNat * 3, p6_7.1, p6_7.2.1 + s2.toNat * 3, p6_14.1, p6_14.2.1 + s2.toNat * 3 + 1, p6_20.1, p6_20.2.1 + s2.toNat * 3 + 1] [0, 1, 5, 29, 30, 31, 32, 33, 34, 35, 36, 37, 38, 39, 40, 41, 44, 45, 46, 47, 48, 49, 50, 51, 52, 53, 54, 55] (by kernel_rfl) (by kernel_rfl) (⟨QuAt.mk (v := .pointer (some ⟨p6_2.1, p6_2.2.1 + s2.toNat * 3, none⟩)) (some 19) (by kernel_rfl) (by kernel_rfl) (Qu.idx (t := 33) (x := .tmp 17) (y := .tmp 18) (c := h0.2) (kk := .i64) (sz := 3) (by kernel_rfl) (by kernel_rfl) (by kernel_rfl) (by kernel_rfl) hx6_2a (idx_lt hx6_2) hp6_2A), QuAt.mk (v := .pointer (some ⟨p6_7.1, p6_7.2.1 + s2.toNat * 3, none⟩)) (some 24) (by kernel_rfl) (by kernel_rfl) (Qu.idx (t := 33) (x := .tmp 22) (y := .tmp 23) (c := h1.2) (kk := .i64) (sz := 3) (by kernel_rfl) (by kernel_rfl) (by kernel_rfl) (by kernel_rfl) hx6_7a (idx_lt hx6_7) hp6_7A), QuAt.mk (v := .bool false) (some 27) (by kernel_rfl) (by kernel_rfl) (Qu.eqv (u := .bool (!(x6_2.f0.toList == x6_7.f0.toList))) (v := .bool false) (0, 0) [] (by kernel_rfl) (congrArg Value.bool hc12)), QuAt.mk (v := .pointer (some ⟨p6_14.1, p6_14.2.1 + s2.toNat * 3, none⟩)) (some 31) (by kernel_rfl) (by kernel_rfl) (Qu.idx (t := 33) (x := .tmp 29) (y := .tmp 30) (c := h0.2) (kk := .i64) (sz := 3) (by kernel_rfl) (by kernel_rfl) (by kernel_rfl) (by kernel_rfl) hx6_14a (idx_lt hx6_14) hp6_14A), QuAt.mk (v := .string (strOfNums x6_14.f1)) (some 34) (by kernel_rfl) (by kernel_rfl) (Qu.str (t := 27) (u := 9) (x := .tmp 33) (h := p6_14.2.2) (xs := x6_14.f1) 1 (by kernel_rfl) (by kernel_rfl) (by kernel_rfl) (by kernel_rfl) rfl), QuAt.mk (v := .pointer (some ⟨p6_20.1, p6_20.2.1 + s2.toNat * 3, none⟩)) (some 37) (by kernel_rfl) (by kernel_rfl) (Qu.idx (t := 33) (x := .tmp 35) (y := .tmp 36) (c := h1.2) (kk := .i64) (sz := 3) (by kernel_rfl) (by kernel_rfl) (by kernel_rfl) (by kernel_rfl) hx6_20a (idx_lt hx6_20) hp6_20A), QuAt.mk (v := .string (strOfNums x6_20.f1)) (some 40) (by kernel_rfl) (by kernel_rfl) (Qu.str (t := 27) (u := 9) (x := .tmp 39) (h := p6_20.2.2) (xs := x6_20.f1) 0 (by kernel_rfl) (by kernel_rfl) (by kernel_rfl) (by kernel_rfl) rfl), QuAt.mk (v := .bool true) (some 41) (by kernel_rfl) (by kernel_rfl) (Qu.eqv (u := .bool (!((strOfNums x6_14.f1).toList == (strOfNums x6_20.f1).toList))) (v := .bool true) (0, 0) [] (by kernel_rfl) (congrArg Value.bool hc13)), trivial⟩) (by kernel_rfl) ?_
      refine J.cond (o := .tmp 55) true (by kernel_rfl) (by kernel_rfl) ?_
      refine J.seq (by kernel_rfl) ?_
      refine J.region (by kernel_rfl) ?_
      refine O.pure 1 [] [4] [] (fr' := [(4, .bool false)]) (bx' := []) (by kernel_rfl) ?_
      refine O.nil (by kernel_rfl) ?_
      obtain rfl := Option.some.inj H
      exact J.doneS [] [] [] [] [] () (vs := [.bool false]) (by kernel_rfl) (by kernel_rfl) (by kernel_rfl) (by kernel_rfl) (by kernel_rfl) (by decide)
     ·obtain ⟨x6_29, hx6_29, H⟩ := bindE H
      obtain ⟨hx6_29a, hx6_29⟩ := idxE hx6_29
      obtain ⟨x6_34, hx6_34, H⟩ := bindE H
      obtain ⟨hx6_34a, hx6_34⟩ := idxE hx6_34
      refine J.open (d := kd85) (h := h0) (i := s2) 0 rfl hx6_2 (op85 _) (fun p6_2 hp6_2A => ?_)
      refine J.open (d := kd85) (h := h1) (i := s2) 2 rfl hx6_7 (op85 _) (fun p6_7 hp6_7A => ?_)
      refine J.open (d := kd85) (h := h0) (i := s2) 2 rfl hx6_14 (op85 _) (fun p6_14 hp6_14A => ?_)
      refine J.open (d := kd85) (h := h1) (i := s2) 4 rfl hx6_20 (op85 _) (fun p6_20 hp6_20A => ?_)
      refine J.open (d := kd85) (h := h0) (i := s2) 4 rfl hx6_29 (op85 _) (fun p6_29 hp6_29A => ?_)
      refine J.open (d := kd85) (h := h1) (i := s2) 6 rfl hx6_34 (op85 _) (fun p6_34 hp6_34A => ?_)
      refine J.drawS (by kernel_rfl) [(0, some 17, .slice h0.1 a0.length h0.2), (1, some 18, .int .i64 s2), (3, some 20, .pointer (some ⟨p6_2.1, p6_2.2.1 + s2.toNat * 3, none⟩)), (4, some 21, .string x6_2.f0), (5, some 22, .slice h1.1 a1.length h1.2), (6, some 23, .int .i64 s2), (8, some 25, .pointer (some ⟨p6_7.1, p6_7.2.1 + s2.toNat * 3, none⟩)), (9, some 26, .string x6_7.f0), (11, some 28, .bool false), (12, some 29, .slice h0.1 a0.length h0.2), (13, some 30, .int .i64 s2), (15, some 32, .pointer (some ⟨p6_14.1, p6_14.2.1 + s2.toNat * 3 + 1, none⟩)), (16, some 33, .slice p6_14.2.2.1 x6_14.f1.length p6_14.2.2.2), (18, some 35, .slice h1.1 a1.length h1.2), (19, some 36, .int .i64 s2), (21, some 38, .pointer (some ⟨p6_20.1, p6_20.2.1 + s2.toNat * 3 + 1, none⟩)), (22, some 39, .slice p6_20.2.2.1 x6_20.f1.length p6_20.2.2.2), (25, some 42, .bool false), (26, some 43, .bool false), (27, some 44, .slice h0.1 a0.length h0.2), (28, some 45, .int .i64 s2), (30, some 47, .pointer (some ⟨p6_29.1, p6_29.2.1 + s2.toNat * 3 + 2, none⟩)), (31, some 48, .int .i64 x6_29.f2), (32, some 49, .slice h1.1 a1.length h1.2), (33, some 50, .int .i64 s2), (35, some 52, .pointer (some ⟨p6_34.1, p6_34.2.1 + s2.toNat * 3 + 2, none⟩)), (36, some 53, .int .i64 x6_34.f2), (37, some 54, .bool (x6_29.f2 != x6_34.f2)), (38, some 55, .bool (x6_29.f2 != x6_34.f2)), (2, some 19, .pointer (some ⟨p6_2.1, p6_2.2.1 + s2.toNat * 3, none⟩)), (7, some 24, .pointer (some ⟨p6_7.1, p6_7.2.1 + s2.toNat * 3, none⟩)), (10, some 27, .bool false), (14, some 31, .pointer (some ⟨p6_14.1, p6_14.2.1 + s2.toNat * 3, none⟩)), (17, some 34, .string (strOfNums x6_14.f1)), (20, some 37, .pointer (some ⟨p6_20.1, p6_20.2.1 + s2.toNat * 3, none⟩)), (23, some 40, .string (strOfNums x6_20.f1)), (24, some 41, .bool false), (29, some 46, .pointer (some ⟨p6_29.1, p6_29.2.1 + s2.toNat * 3, none⟩)), (34, some 51, .pointer (some ⟨p6_34.1, p6_34.2.1 + s2.toNat * 3, none⟩))] ([0, 1, 3, 4, 5, 6, 8, 9, 11, 12, 13, 15, 16, 18, 19, 21, 22, 25, 26, 27, 28, 30, 31, 32, 33, 35, 36, 37, 38] ++ [2, 7, 10, 14, 17, 20, 23, 24, 29, 34]) (by kernel_rfl) ?_
      refine D.fin (fr' := [(0, .slice h0.1 a0.length h0.2), (1, .slice h1.1 a1.length h1.2), (5, .int .i64 s2), (29, .slice h0.1 a0.length h0.2), (30, .int .i64 s2), (31, .pointer (some ⟨p6_14.1, p6_14.2.1 + s2.toNat * 3, none⟩)), (32, .pointer (some ⟨p6_14.1, p6_14.2.1 + s2.toNat * 3 + 1, none⟩)), (33, .slice p6_14.2.2.1 x6_14.f1.length p6_14.2.2.2), (34, .string (strOfNums x6_14.f1)), (35, .slice h1.1 a1.length h1.2), (36, .int .i64 s2), (37, .pointer (some ⟨p6_20.1, p6_20.2.1 + s2.toNat * 3, none⟩)), (38, .pointer (some ⟨p6_20.1, p6_20.2.1 + s2.toNat * 3 + 1, none⟩)), (39, .slice p6_20.2.2.1 x6_20.f1.length p6_20.2.2.2), (40, .string (strOfNums x6_20.f1)), (41, .bool false), (44, .slice h0.1 a0.length h0.2), (45, .int .i64 s2), (46, .pointer (some ⟨p6_29.1, p6_29.2.1 + s2.toNat * 3, none⟩)), (47, .pointer (some ⟨p6_29.1, p6_29.2.1 + s2.toNat * 3 + 2, none⟩)), (48, .int .i64 x6_29.f2), (49, .slice h1.1 a1.length h1.2), (50, .int .i64 s2), (51, .pointer (some ⟨p6_34.1, p6_34.2.1 + s2.toNat * 3, none⟩)), (52, .pointer (some ⟨p6_34.1, p6_34.2.1 + s2.toNat * 3 + 2, none⟩)), (53, .int .i64 x6_34.f2), (54, .bool (x6_29.f2 != x6_34.f2)), (55, .bool (x6_29.f2 != x6_34.f2))]) [0, 1, 3, 4, 5, 6, 8, 9, 11, 12, 13, 15, 16, 18, 19, 21, 22, 25, 26, 27, 28, 30, 31, 32, 33, 35, 36, 37, 38] [2, 7, 10, 14, 17, 20, 23, 24, 29, 34] [(5, 0), (4, 0), (3, 1), (2, 1), (1, 2), (0, 2)] [p6_2.1, p6_2.2.1 + s2.toNat * 3, p6_7.1, p6_7.2.1 + s2.toNat * 3, p6_14.1, p6_14.2.1 + s2.toNat * 3 + 1, p6_20.1, p6_20.2.1 + s2.toNat * 3 + 1, p6_29.1, p6_29.2.1 + s2.toNat * 3 + 2, p6_34.1, p6_34.2.1 + s2.toNat * 3 + 2] [0, 1, 5, 29, 30, 31, 32, 33, 34, 35, 36, 37, 38, 39, 40, 41, 44, 45, 46, 47, 48, 49, 50, 51, 52, 53, 54, 55] (by kernel_rfl) (by kernel_rfl) (⟨QuAt.mk (v := .pointer (some ⟨p6_2.1, p6_2.2.1 + s2.toNat * 3, none⟩)) (some 19) (by kernel_rfl) (by kernel_rfl) (Qu.idx (t := 33) (x := .tmp 17) (y := .tmp 18) (c := h0.2) (kk := .i64) (sz := 3) (by kernel_rfl) (by kernel_rfl) (by kernel_rfl) (by kernel_rfl) hx6_2a (idx_lt hx6_2) hp6_2A), QuAt.mk (v := .pointer (some ⟨p6_7.1, p6_7.2.1 + s2.toNat * 3, none⟩)) (some 24) (by kernel_rfl) (by kernel_rfl) (Qu.idx (t := 33) (x := .tmp 22) (y := .tmp 23) (c := h1.2) (kk := .i64) (sz := 3) (by kernel_rfl) (by kernel_rfl) (by kernel_rfl) (by kernel_rfl) hx6_7a (idx_lt hx6_7) hp6_7A), QuAt.mk (v := .bool false) (some 27) (by kernel_rfl) (by kernel_rfl) (Qu.eqv (u := .bool (!(x6_2.f0.toList == x6_7.f0.toList))) (v := .bool false) (0, 0) [] (by kernel_rfl) (congrArg Value.bool hc12)), QuAt.mk (v := .pointer (some ⟨p6_14.1, p6_14.2.1 + s2.toNat * 3, none⟩)) (some 31) (by kernel_rfl) (by kernel_rfl) (Qu.idx (t := 33) (x := .tmp 29) (y := .tmp 30) (c := h0.2) (kk := .i64) (sz := 3) (by kernel_rfl) (by kernel_rfl) (by kernel_rfl) (by kernel_rfl) hx6_14a (idx_lt hx6_14) hp6_14A), QuAt.mk (v := .string (strOfNums x6_14.f1)) (some 34) (by kernel_rfl) (by kernel_rfl) (Qu.str (t := 27) (u := 9) (x := .tmp 33) (h := p6_14.2.2) (xs := x6_14.f1) 3 (by kernel_rfl) (by kernel_rfl) (by kernel_rfl) (by kernel_rfl) rfl), QuAt.mk (v := .pointer (some ⟨p6_20.1, p6_20.2.1 + s2.toNat * 3, none⟩)) (some 37) (by kernel_rfl) (by kernel_rfl) (Qu.idx (t := 33) (x := .tmp 35) (y := .tmp 36) (c := h1.2) (kk := .i64) (sz := 3) (by kernel_rfl) (by kernel_rfl) (by kernel_rfl) (by kernel_rfl) hx6_20a (idx_lt hx6_20) hp6_20A), QuAt.mk (v := .string (strOfNums x6_20.f1)) (some 40) (by kernel_rfl) (by kernel_rfl) (Qu.str (t := 27) (u := 9) (x := .tmp 39) (h := p6_20.2.2) (xs := x6_20.f1) 2 (by kernel_rfl) (by kernel_rfl) (by kernel_rfl) (by kernel_rfl) rfl), QuAt.mk (v := .bool false) (some 41) (by kernel_rfl) (by kernel_rfl) (Qu.eqv (u := .bool (!((strOfNums x6_14.f1).toList == (strOfNums x6_20.f1).toList))) (v := .bool false) (0, 0) [] (by kernel_rfl) (congrArg Value.bool hc13)), QuAt.mk (v := .pointer (some ⟨p6_29.1, p6_29.2.1 + s2.toNat * 3, none⟩)) (some 46) (by kernel_rfl) (by kernel_rfl) (Qu.idx (t := 33) (x := .tmp 44) (y := .tmp 45) (c := h0.2) (kk := .i64) (sz := 3) (by kernel_rfl) (by kernel_rfl) (by kernel_rfl) (by kernel_rfl) hx6_29a (idx_lt hx6_29) hp6_29A), QuAt.mk (v := .pointer (some ⟨p6_34.1, p6_34.2.1 + s2.toNat * 3, none⟩)) (some 51) (by kernel_rfl) (by kernel_rfl) (Qu.idx (t := 33) (x := .tmp 49) (y := .tmp 50) (c := h1.2) (kk := .i64) (sz := 3) (by kernel_rfl) (by kernel_rfl) (by kernel_rfl) (by kernel_rfl) hx6_34a (idx_lt hx6_34) hp6_34A), trivial⟩) (by kernel_rfl) ?_
      rcases condE H with ⟨hc14, H⟩ | ⟨hc14, H⟩
      ·refine J.condT (x := .tmp 55) (t := (x6_29.f2 != x6_34.f2)) (by kernel_rfl) (by kernel_rfl) hc14 ?_
       refine J.seq (by kernel_rfl) ?_
       refine J.region (by kernel_rfl) ?_
       refine O.pure 1 [] [4] [] (fr' := [(4, .bool false)]) (bx' := []) (by kernel_rfl) ?_
       refine O.nil (by kernel_rfl) ?_
       obtain rfl := Option.some.inj H
       exact J.doneS [] [] [] [] [] () (vs := [.bool false]) (by kernel_rfl) (by kernel_rfl) (by kernel_rfl) (by kernel_rfl) (by kernel_rfl) (by decide)
      ·refine J.condF (x := .tmp 55) (t := (x6_29.f2 != x6_34.f2)) (by kernel_rfl) (by kernel_rfl) hc14 ?_
       refine J.skip (by kernel_rfl) ?_
       refine J.out ?_
       refine J.region (by kernel_rfl) ?_
       refine O.pure 3 [] [0, 1, 5, 29, 30, 31, 32, 33, 34, 35, 36, 37, 38, 39, 40, 41, 44, 45, 46, 47, 48, 49, 50, 51, 52, 53, 54] [] (fr' := [(0, .slice h0.1 a0.length h0.2), (1, .slice h1.1 a1.length h1.2), (5, .int .i64 (IntKind.wrap .i64 (s2 + 1))), (29, .slice h0.1 a0.length h0.2), (30, .int .i64 s2), (31, .pointer (some ⟨p6_14.1, p6_14.2.1 + s2.toNat * 3, none⟩)), (32, .pointer (some ⟨p6_14.1, p6_14.2.1 + s2.toNat * 3 + 1, none⟩)), (33, .slice p6_14.2.2.1 x6_14.f1.length p6_14.2.2.2), (34, .string (strOfNums x6_14.f1)), (35, .slice h1.1 a1.length h1.2), (36, .int .i64 s2), (37, .pointer (some ⟨p6_20.1, p6_20.2.1 + s2.toNat * 3, none⟩)), (38, .pointer (some ⟨p6_20.1, p6_20.2.1 + s2.toNat * 3 + 1, none⟩)), (39, .slice p6_20.2.2.1 x6_20.f1.length p6_20.2.2.2), (40, .string (strOfNums x6_20.f1)), (41, .bool false), (44, .slice h0.1 a0.length h0.2), (45, .int .i64 s2), (46, .pointer (some ⟨p6_29.1, p6_29.2.1 + s2.toNat * 3, none⟩)), (47, .pointer (some ⟨p6_29.1, p6_29.2.1 + s2.toNat * 3 + 2, none⟩)), (48, .int .i64 x6_29.f2), (49, .slice h1.1 a1.length h1.2), (50, .int .i64 s2), (51, .pointer (some ⟨p6_34.1, p6_34.2.1 + s2.toNat * 3, none⟩)), (52, .pointer (some ⟨p6_34.1, p6_34.2.1 + s2.toNat * 3 + 2, none⟩)), (53, .int .i64 x6_34.f2), (54, .bool (x6_29.f2 != x6_34.f2))]) (bx' := []) (by kernel_rfl) ?_
       refine O.nil (by kernel_rfl) ?_
       exact J.conv2 [0, 1, 5] [6, 7] [] [] (by kernel_rfl) (by kernel_rfl) (by kernel_rfl) (by kernel_rfl) (by decide) (ih2 (IntKind.wrap .i64 (s2 + 1)) () H)
   ·refine J.condF (x := .tmp 14) (t := (decide (s2 < (a0.length : Int)))) (by kernel_rfl) (by kernel_rfl) hc11 ?_
    refine J.exit (id := 0) (by kernel_rfl) rfl ?_
    refine J.seq (by kernel_rfl) ?_
    refine J.region (by kernel_rfl) ?_
    refine O.pure 1 [] [4] [] (fr' := [(4, .bool true)]) (bx' := []) (by kernel_rfl) ?_
    refine O.nil (by kernel_rfl) ?_
    obtain rfl := Option.some.inj H
    exact J.doneS [] [] [] [] [] () (vs := [.bool true]) (by kernel_rfl) (by kernel_rfl) (by kernel_rfl) (by kernel_rfl) (by kernel_rfl) (by decide)
  ·exact J.conv2 [0, 1, 5] [0, 1] [] [] (by kernel_rfl) (by kernel_rfl) (by kernel_rfl) (by kernel_rfl) (by decide) h_
/-! ### haywain/disk.Cut: function 50 -/
def disk_Cut.f (K : Nat) (a0 : S24) (a1 : ByteArray) (a2 : Int) : Option (S24 × Int) := (disk_own.f K a0).bind fun x1_1 => (disk_at.f K x1_1 a1).bind fun x2_2 => cond (decide (x2_2 < 0)) (some ((x1_1, 4))) (cond (decide (a2 < 0)) (some ((x1_1, 1))) ((idxO x1_1.f0 x2_2).bind fun x5_7 => cond (decide (a2 > (x5_7.f1.length : Int))) (some ((x1_1, 1))) ((idxO x1_1.f0 x2_2).bind fun x7_9 => (cutO x7_9.f1 0 a2).bind fun y7_14 => some (((⟨((x1_1.f0.set x2_2.toNat (⟨x7_9.f0, (cutL x7_9.f1 ((0 : Int).toNat) ((a2 : Int).toNat)), x7_9.f2⟩ : S70)).set x2_2.toNat (⟨x7_9.f0, (cutL x7_9.f1 ((0 : Int).toNat) ((a2 : Int).toNat)), a2⟩ : S70))⟩ : S24), 0)))))
set_option maxRecDepth 100000 in
set_option maxHeartbeats 1000000 in
theorem disk_Cut.con (K : Nat) (a0 : S24) (a1 : ByteArray) (a2 : Int) (h0 : Hd) (r : (S24 × Int)) (X : Nat → Nat → Prop) (w : World) (hS : St X w [] [] [] [] [Rd kd70 h0.1 h0.2 a0.f0] w) (H : disk_Cut.f K a0 a1 a2 = some r) :
    Cn Try.prog 50 [.agg #[.slice h0.1 a0.f0.length h0.2], .string a1, .int .i64 a2] X w [] (fun i : Hd => .tuple #[.agg #[.slice i.1 r.1.f0.length i.2], .int .i64 r.2]) (fun i => []) (fun i => [mkRow kd70 70 (.slice i.1 r.1.f0.length i.2) r.1.f0]) (fun i => []) := by
 refine Cn.of Try.func50 (by kernel_rfl) hS ?_
 unfold disk_Cut.f at H
 refine J.seq (by kernel_rfl) ?_
 refine J.region (by kernel_rfl) ?_
 refine O.e (some 3) (Ev.box (t := 24) (x := .tmp 0) (v := .agg #[.slice h0.1 a0.f0.length h0.2]) (by kernel_rfl) (by kernel_rfl)) (by kernel_rfl) (fun p0_0 => ?_)
 refine O.e (some 6) (Ev.alloc (t := 24) (z := .agg #[.slice none 0 0]) (by kernel_rfl) (by kernel_rfl)) (by kernel_rfl) (fun p0_1 => ?_)
 refine O.pure 1 [] [1, 2, 3, 6] [] (fr' := [(1, .string a1), (2, .int .i64 a2), (3, .pointer (some ⟨p0_0, 0, none⟩)), (6, .pointer (some ⟨p0_1, 0, none⟩))]) (bx' := [⟨p0_1, [.slice none 0 0], 24⟩, ⟨p0_0, [.slice h0.1 a0.f0.length h0.2], 24⟩]) (by kernel_rfl) ?_
 refine O.nil (by kernel_rfl) ?_
 refine J.seq (by kernel_rfl) ?_
 obtain ⟨x1_1, hx1_1, H⟩ := bindE H
 refine J.region (by kernel_rfl) ?_
 refine O.pure 1 [(1, 0)] [1, 2, 3, 6, 9] [p0_0, 0] (fr' := [(1, .string a1), (2, .int .i64 a2), (3, .pointer (some ⟨p0_0, 0, none⟩)), (6, .pointer (some ⟨p0_1, 0, none⟩)), (9, .agg #[.slice h0.1 a0.f0.length h0.2])]) (bx' := [⟨p0_1, [.slice none 0 0], 24⟩, ⟨p0_0, [.slice h0.1 a0.f0.length h0.2], 24⟩]) (by kernel_rfl) ?_
 refine O.e (some 10) (Ev.call0 (xs := [.tmp 9]) [0] (by kernel_rfl) (by kernel_rfl) (fun w hS => disk_own.con K a0 h0  _ _ w hS hx1_1)) (by kernel_rfl) (fun p1_1 => ?_)
 refine O.pure 1 [(1, 0)] [1, 2, 3, 6] [p0_0, 0] (fr' := [(1, .string a1), (2, .int .i64 a2), (3, .pointer (some ⟨p0_0, 0, none⟩)), (6, .pointer (some ⟨p0_1, 0, none⟩))]) (bx' := [⟨p0_1, [.slice none 0 0], 24⟩, ⟨p0_0, [.slice p1_1.1 x1_1.f0.length p1_1.2], 24⟩]) (by kernel_rfl) ?_
 refine O.nil (by kernel_rfl) ?_
 refine J.seq (by kernel_rfl) ?_
 obtain ⟨x2_2, hx2_2, H⟩ := bindE H
 refine J.region (by kernel_rfl) ?_
 refine O.pure 2 [(1, 0)] [2, 3, 6, 11, 12] [p0_0, 0] (fr' := [(2, .int .i64 a2), (3, .pointer (some ⟨p0_0, 0, none⟩)), (6, .pointer (some ⟨p0_1, 0, none⟩)), (11, .agg #[.slice p1_1.1 x1_1.f0.length p1_1.2]), (12, .string a1)]) (bx' := [⟨p0_1, [.slice none 0 0], 24⟩, ⟨p0_0, [.slice p1_1.1 x1_1.f0.length p1_1.2], 24⟩]) (by kernel_rfl) ?_
 refine O.e (some 13) (Ev.callLb (xs1 := [.tmp 11, .tmp 12]) [0] (fun w hS => (hS.rowsel [0] rfl (by decide)).freezeL (hh := p1_1) (m := x1_1.f0.length) (xs := x1_1.f0) rfl) (by kernel_rfl) (by kernel_rfl) (fun _ q hq => by cases hq) (fun w hS => disk_at.con K x1_1 a1 p1_1  _ _ w hS hx2_2)) (by kernel_rfl) (fun _ => ?_)
 refine O.pure 1 [] [2, 3, 6, 8] [] (fr' := [(2, .int .i64 a2), (3, .pointer (some ⟨p0_0, 0, none⟩)), (6, .pointer (some ⟨p0_1, 0, none⟩)), (8, .int .i64 x2_2)]) (bx' := [⟨p0_1, [.slice none 0 0], 24⟩, ⟨p0_0, [.slice p1_1.1 x1_1.f0.length p1_1.2], 24⟩]) (by kernel_rfl) ?_
 refine O.nil (by kernel_rfl) ?_
 refine J.seq (by kernel_rfl) ?_
 refine J.seq (by kernel_rfl) ?_
 refine J.region (by kernel_rfl) ?_
 refine O.pure 2 [] [2, 3, 6, 8, 15] [] (fr' := [(2, .int .i64 a2), (3, .pointer (some ⟨p0_0, 0, none⟩)), (6, .pointer (some ⟨p0_1, 0, none⟩)), (8, .int .i64 x2_2), (15, .bool (decide (x2_2 < 0)))]) (bx' := [⟨p0_1, [.slice none 0 0], 24⟩, ⟨p0_0, [.slice p1_1.1 x1_1.f0.length p1_1.2], 24⟩]) (by kernel_rfl) ?_
 refine O.nil (by kernel_rfl) ?_
 rcases condE H with ⟨hc1, H⟩ | ⟨hc1, H⟩
 ·refine J.condT (x := .tmp 15) (t := (decide (x2_2 < 0))) (by kernel_rfl) (by kernel_rfl) hc1 ?_
  refine J.seq (by kernel_rfl) ?_
  refine J.region (by kernel_rfl) ?_
  refine O.pure 3 [(1, 0), (0, 0)] [6, 7] [p0_0, 0, p0_1, 0] (fr' := [(6, .pointer (some ⟨p0_1, 0, none⟩)), (7, .int .i64 4)]) (bx' := [⟨p0_1, [.slice p1_1.1 x1_1.f0.length p1_1.2], 24⟩, ⟨p0_0, [.slice p1_1.1 x1_1.f0.length p1_1.2], 24⟩]) (by kernel_rfl) ?_
  refine O.nil (by kernel_rfl) ?_
  obtain rfl := Option.some.inj H
  exact J.doneS [(0, 0)] [p0_1, 0] [] [] [0] p1_1 (vs := [.agg #[.slice p1_1.1 x1_1.f0.length p1_1.2], .int .i64 4]) (by kernel_rfl) (by kernel_rfl) (by kernel_rfl) (by kernel_rfl) (by kernel_rfl) (by decide)
 ·refine J.condF (x := .tmp 15) (t := (decide (x2_2 < 0))) (by kernel_rfl) (by kernel_rfl) hc1 ?_
  refine J.skip (by kernel_rfl) ?_
  refine J.seq (by kernel_rfl) ?_
  refine J.seq (by kernel_rfl) ?_
  rcases condE H with ⟨hc2, H⟩ | ⟨hc2, H⟩
  ·refine J.region (by kernel_rfl) ?_
   refine O.pure 1 [] [2, 3, 6, 8, 17] [] (fr' := [(2, .int .i64 a2), (3, .pointer (some ⟨p0_0, 0, none⟩)), (6, .pointer (some ⟨p0_1, 0, none⟩)), (8, .int .i64 x2_2), (17, .int .i64 a2)]) (bx' := [⟨p0_1, [.slice none 0 0], 24⟩, ⟨p0_0, [.slice p1_1.1 x1_1.f0.length p1_1.2], 24⟩]) (by kernel_rfl) ?_
   refine O.q (v := .bool true) (some 18) (Qu.eqv (u := .bool (decide (a2 < 0))) (v := .bool true) (0, 0) [] (by kernel_rfl) (congrArg Value.bool hc2)) (by kernel_rfl) ?_
   refine O.pure 11 [] [2, 3, 6, 8, 29] [] (fr' := [(2, .int .i64 a2), (3, .pointer (some ⟨p0_0, 0, none⟩)), (6, .pointer (some ⟨p0_1, 0, none⟩)), (8, .int .i64 x2_2), (29, .bool true)]) (bx' := [⟨p0_1, [.slice none 0 0], 24⟩, ⟨p0_0, [.slice p1_1.1 x1_1.f0.length p1_1.2], 24⟩]) (by kernel_rfl) ?_
   refine O.nil (by kernel_rfl) ?_
   refine J.cond (o := .tmp 29) true (by kernel_rfl) (by kernel_rfl) ?_
   refine J.seq (by kernel_rfl) ?_
   refine J.region (by kernel_rfl) ?_
   refine O.pure 3 [(1, 0), (0, 0)] [6, 7] [p0_0, 0, p0_1, 0] (fr' := [(6, .pointer (some ⟨p0_1, 0, none⟩)), (7, .int .i64 1)]) (bx' := [⟨p0_1, [.slice p1_1.1 x1_1.f0.length p1_1.2], 24⟩, ⟨p0_0, [.slice p1_1.1 x1_1.f0.length p1_1.2], 24⟩]) (by kernel_rfl) ?_
   refine O.nil (by kernel_rfl) ?_
   obtain rfl := Option.some.inj H
   exact J.doneS [(0, 0)] [p0_1, 0] [] [] [0] p1_1 (vs := [.agg #[.slice p1_1.1 x1_1.f0.length p1_1.2], .int .i64 1]) (by kernel_rfl) (by kernel_rfl) (by kernel_rfl) (by kernel_rfl) (by kernel_rfl) (by decide)
  ·obtain ⟨x5_7, hx5_7, H⟩ := bindE H
   obtain ⟨hx5_7a, hx5_7⟩ := idxE hx5_7
   refine J.region (by kernel_rfl) ?_
   refine O.pure 1 [] [2, 3, 6, 8, 17] [] (fr' := [(2, .int .i64 a2), (3, .pointer (some ⟨p0_0, 0, none⟩)), (6, .pointer (some ⟨p0_1, 0, none⟩)), (8, .int .i64 x2_2), (17, .int .i64 a2)]) (bx' := [⟨p0_1, [.slice none 0 0], 24⟩, ⟨p0_0, [.slice p1_1.1 x1_1.f0.length p1_1.2], 24⟩]) (by kernel_rfl) ?_
   refine O.q (v := .bool false) (some 18) (Qu.eqv (u := .bool (decide (a2 < 0))) (v := .bool false) (0, 0) [] (by kernel_rfl) (congrArg Value.bool hc2)) (by kernel_rfl) ?_
   refine O.pure 5 [(1, 0)] [2, 3, 6, 8, 19, 20, 22, 23] [p0_0, 0] (fr' := [(2, .int .i64 a2), (3, .pointer (some ⟨p0_0, 0, none⟩)), (6, .pointer (some ⟨p0_1, 0, none⟩)), (8, .int .i64 x2_2), (19, .bool false), (20, .int .i64 a2), (22, .slice p1_1.1 x1_1.f0.length p1_1.2), (23, .int .i64 x2_2)]) (bx' := [⟨p0_1, [.slice none 0 0], 24⟩, ⟨p0_0, [.slice p1_1.1 x1_1.f0.length p1_1.2], 24⟩]) (by kernel_rfl) ?_
   refine O.mono (fun w hS => hS.pk) ?_
   refine O.peek (d := kd70) (hh := p1_1) (m := x1_1.f0.length) (i := x2_2) (by simpa only [List.length_set] using hx5_7) (op70 _) (fun p5_7 hp5_7A => ?_)
   refine O.q (v := .pointer (some ⟨p5_7.1, 0 + x2_2.toNat * 3, none⟩)) (some 24) (Qu.idx (t := 22) (x := .tmp 22) (y := .tmp 23) (len := x1_1.f0.length) (c := p1_1.2) (kk := .i64) (sz := 3) (by kernel_rfl) (by kernel_rfl) (by kernel_rfl) (by kernel_rfl) hx5_7a (by have := idx_lt hx5_7; simpa only [List.length_set, List.length_replicate] using this) hp5_7A) (by kernel_rfl) ?_
   refine O.pure 1 [] [2, 3, 6, 8, 19, 20, 25] [] (fr' := [(2, .int .i64 a2), (3, .pointer (some ⟨p0_0, 0, none⟩)), (6, .pointer (some ⟨p0_1, 0, none⟩)), (8, .int .i64 x2_2), (19, .bool false), (20, .int .i64 a2), (25, .pointer (some ⟨p5_7.1, 0 + x2_2.toNat * 3 + 1, none⟩))]) (bx' := [⟨p0_1, [.slice none 0 0], 24⟩, ⟨p0_0, [.slice p1_1.1 x1_1.f0.length p1_1.2], 24⟩]) (by kernel_rfl) ?_
   refine O.q (v := .slice p5_7.2.1 x5_7.f1.length p5_7.2.2) (some 26) (Qu.loadR (t := 27) (x := .tmp 25) (hh := p1_1) (m := x1_1.f0.length) (i := x2_2.toNat) (u := .pointer (some ⟨p5_7.1, 0 + x2_2.toNat * 3 + 1, none⟩)) (r := .slice p5_7.2.1 x5_7.f1.length p5_7.2.2) (cs := [.string x5_7.f0, .slice p5_7.2.1 x5_7.f1.length p5_7.2.2, .int .i64 x5_7.f2]) 0 1 [p5_7.1, 0 + x2_2.toNat * 3 + 1] (by kernel_rfl) (by kernel_rfl) hp5_7A rfl (by kernel_rfl)) (by kernel_rfl) ?_
   refine O.pure 3 [] [2, 3, 6, 8, 29] [] (fr' := [(2, .int .i64 a2), (3, .pointer (some ⟨p0_0, 0, none⟩)), (6, .pointer (some ⟨p0_1, 0, none⟩)), (8, .int .i64 x2_2), (29, .bool (decide (a2 > (x5_7.f1.length : Int))))]) (bx' := [⟨p0_1, [.slice none 0 0], 24⟩, ⟨p0_0, [.slice p1_1.1 x1_1.f0.length p1_1.2], 24⟩]) (by kernel_rfl) ?_
   refine O.nil (by kernel_rfl) ?_
   refine J.mono (fun w hS => hS.unpk) ?_
   rcases condE H with ⟨hc3, H⟩ | ⟨hc3, H⟩
   ·refine J.condT (x := .tmp 29) (t := (decide (a2 > (x5_7.f1.length : Int)))) (by kernel_rfl) (by kernel_rfl) hc3 ?_
    refine J.seq (by kernel_rfl) ?_
    refine J.region (by kernel_rfl) ?_
    refine O.pure 3 [(1, 0), (0, 0)] [6, 7] [p0_0, 0, p0_1, 0] (fr' := [(6, .pointer (some ⟨p0_1, 0, none⟩)), (7, .int .i64 1)]) (bx' := [⟨p0_1, [.slice p1_1.1 x1_1.f0.length p1_1.2], 24⟩, ⟨p0_0, [.slice p1_1.1 x1_1.f0.length p1_1.2], 24⟩]) (by kernel_rfl) ?_
    refine O.nil (by kernel_rfl) ?_
    obtain rfl := Option.some.inj H
    exact J.doneS [(0, 0)] [p0_1, 0] [] [] [0] p1_1 (vs := [.agg #[.slice p1_1.1 x1_1.f0.length p1_1.2], .int .i64 1]) (by kernel_rfl) (by kernel_rfl) (by kernel_rfl) (by kernel_rfl) (by kernel_rfl) (by decide)
   ·refine J.condF (x := .tmp 29) (t := (decide (a2 > (x5_7.f1.length : Int)))) (by kernel_rfl) (by kernel_rfl) hc3 ?_
    refine J.skip (by kernel_rfl) ?_
    refine J.seq (by kernel_rfl) ?_
    obtain ⟨x7_9, hx7_9, H⟩ := bindE H
    obtain ⟨hx7_9a, hx7_9⟩ := idxE hx7_9
    obtain ⟨y7_14, hy7_14, H⟩ := bindE H
    obtain ⟨hy7_14a, hy7_14b, hy7_14c, -⟩ := cutE hy7_14
    refine J.mono (fun w hS => hS.pk) ?_
    refine J.peek (d := kd70) (hh := p1_1) (m := x1_1.f0.length) (i := x2_2) (by simpa only [List.length_set] using hx7_9) (op70 _) (fun p7_9 hp7_9A => ?_)
    refine J.drawS (by kernel_rfl) [(0, some 31, .pointer (some ⟨p0_0, 0, none⟩)), (1, some 32, .slice p1_1.1 x1_1.f0.length p1_1.2), (2, some 33, .int .i64 x2_2), (3, some 34, .pointer (some ⟨p0_0, 0, none⟩)), (4, some 35, .slice p1_1.1 x1_1.f0.length p1_1.2), (5, some 36, .int .i64 x2_2), (6, some 37, .pointer (some ⟨p0_0, 0, none⟩)), (7, some 38, .slice p1_1.1 x1_1.f0.length p1_1.2), (8, some 39, .int .i64 x2_2), (10, some 41, .pointer (some ⟨p7_9.1, 0 + x2_2.toNat * 3 + 1, none⟩)), (12, some 43, .int .i64 a2), (13, some 44, .int .i64 a2), (15, some 46, .int .i64 a2), (9, some 40, .pointer (some ⟨p7_9.1, 0 + x2_2.toNat * 3, none⟩)), (11, some 42, .slice p7_9.2.1 x7_9.f1.length p7_9.2.2)] ([0, 1, 2, 3, 4, 5, 6, 7, 8, 10, 12, 13, 15] ++ [9, 11]) (by kernel_rfl) ?_
    refine D.mid (cs := [14]) [0, 1, 2, 3, 4, 5, 6, 7, 8, 10, 12, 13, 15] [9, 11] [(1, 0), (1, 0), (1, 0)] [p0_0, 0, p0_0, 0, p0_0, 0] (by kernel_rfl) (by kernel_rfl) (⟨QuAt.mk (v := .pointer (some ⟨p7_9.1, 0 + x2_2.toNat * 3, none⟩)) (some 40) (by kernel_rfl) (by kernel_rfl) (Qu.idx (t := 22) (x := .tmp 38) (y := .tmp 39) (len := x1_1.f0.length) (c := p1_1.2) (kk := .i64) (sz := 3) (by kernel_rfl) (by kernel_rfl) (by kernel_rfl) (by kernel_rfl) hx7_9a (by have := idx_lt hx7_9; simpa only [List.length_set, List.length_replicate] using this) hp7_9A), QuAt.mk (v := .slice p7_9.2.1 x7_9.f1.length p7_9.2.2) (some 42) (by kernel_rfl) (by kernel_rfl) (Qu.loadR (t := 27) (x := .tmp 41) (hh := p1_1) (m := x1_1.f0.length) (i := x2_2.toNat) (u := .pointer (some ⟨p7_9.1, 0 + x2_2.toNat * 3 + 1, none⟩)) (r := .slice p7_9.2.1 x7_9.f1.length p7_9.2.2) (cs := [.string x7_9.f0, .slice p7_9.2.1 x7_9.f1.length p7_9.2.2, .int .i64 x7_9.f2]) 0 1 [p7_9.1, 0 + x2_2.toNat * 3 + 1] (by kernel_rfl) (by kernel_rfl) hp7_9A rfl (by kernel_rfl)), trivial⟩) (by kernel_rfl) ⟨?_, trivial⟩
    refine EvStep.mk (some 45) (new := fun p7_14 => [(16, some 47, .pointer (some ⟨p7_9.1, 0 + x2_2.toNat * 3, none⟩)), (17, some 48, .pointer (some ⟨p7_9.1, 0 + x2_2.toNat * 3 + 1, none⟩))]) ([0, 1, 2, 3, 4, 5, 6, 7, 8, 10, 15, 17] ++ [9, 16]) (by kernel_rfl) (Ev.cut3 (d := (Kd.int .u8)) (xs := x7_9.f1) (t := 27) (x := .tmp 42) (lo := none) (hi := (some (.tmp 43))) (mx := (some (.tmp 44))) (vlo := none) (vhi := (some (.int .i64 a2))) (vmx := (some (.int .i64 a2))) (A := p7_9.2.1) (c := p7_9.2.2) (l := (0 : Int).toNat) (h := (a2 : Int).toNat) 0 (by kernel_rfl) (by kernel_rfl) (by kernel_rfl) (by kernel_rfl) (by kernel_rfl) (by kernel_rfl) (Bd.dflt _) ⟨_, _, rfl, by omega, rfl⟩ ⟨_, _, rfl, by omega, rfl⟩ (by omega) (by omega) rfl) (fun p7_14 => by kernel_rfl) (fun p7_14 => ?_)
    refine D.mid (cs := [18]) [0, 1, 2, 3, 4, 5, 6, 7, 8, 10, 15, 17] [9, 16] [(1, 0), (1, 0), (1, 0)] [p0_0, 0, p0_0, 0, p0_0, 0] (by kernel_rfl) (by kernel_rfl) (⟨QuAt.mk (v := .pointer (some ⟨p7_9.1, 0 + x2_2.toNat * 3, none⟩)) (some 40) (by kernel_rfl) (by kernel_rfl) (Qu.idx (t := 22) (x := .tmp 38) (y := .tmp 39) (len := x1_1.f0.length) (c := p1_1.2) (kk := .i64) (sz := 3) (by kernel_rfl) (by kernel_rfl) (by kernel_rfl) (by kernel_rfl) hx7_9a (by have := idx_lt hx7_9; simpa only [List.length_set, List.length_replicate] using this) hp7_9A), QuAt.mk (v := .pointer (some ⟨p7_9.1, 0 + x2_2.toNat * 3, none⟩)) (some 47) (by kernel_rfl) (by kernel_rfl) (Qu.idx (t := 22) (x := .tmp 32) (y := .tmp 33) (len := x1_1.f0.length) (c := p1_1.2) (kk := .i64) (sz := 3) (by kernel_rfl) (by kernel_rfl) (by kernel_rfl) (by kernel_rfl) hx7_9a (by have := idx_lt hx7_9; simpa only [List.length_set, List.length_replicate] using this) hp7_9A), trivial⟩) (by kernel_rfl) ⟨?_, trivial⟩
    refine EvStep.mk none (new := fun _ => [(19, some 49, .pointer (some ⟨p7_9.1, 0 + x2_2.toNat * 3, none⟩)), (20, some 50, .pointer (some ⟨p7_9.1, 0 + x2_2.toNat * 3 + 2, none⟩))]) ([3, 4, 5, 15, 20] ++ [16, 19]) (by kernel_rfl) (Ev.storeR (t := 27) (x := .tmp 48) (y := .tmp 45) (hh := p1_1) (m := x1_1.f0.length) (g := p7_9.1) (i := x2_2.toNat) (f := 1) (s := 1) (u := .pointer (some ⟨p7_9.1, 0 + x2_2.toNat * 3 + 1, none⟩)) (z := .slice ((p7_14, (cutL x7_9.f1 ((0 : Int).toNat) ((a2 : Int).toNat)).length) : Hd).1 (cutL x7_9.f1 ((0 : Int).toNat) ((a2 : Int).toNat)).length ((p7_14, (cutL x7_9.f1 ((0 : Int).toNat) ((a2 : Int).toNat)).length) : Hd).2) (cs := [.string x7_9.f0, .slice p7_9.2.1 x7_9.f1.length p7_9.2.2, .int .i64 x7_9.f2]) (ncs := [.string x7_9.f0, .slice ((p7_14, (cutL x7_9.f1 ((0 : Int).toNat) ((a2 : Int).toNat)).length) : Hd).1 (cutL x7_9.f1 ((0 : Int).toNat) ((a2 : Int).toNat)).length ((p7_14, (cutL x7_9.f1 ((0 : Int).toNat) ((a2 : Int).toNat)).length) : Hd).2, .int .i64 x7_9.f2]) (⟨x7_9.f0, (cutL x7_9.f1 ((0 : Int).toNat) ((a2 : Int).toNat)), x7_9.f2⟩ : S70) (some 0) (by kernel_rfl) (by kernel_rfl) rfl (by kernel_rfl) hp7_9A (by have := idx_lt hx7_9; simpa only [List.length_set] using this) ⟨by kernel_rfl, by kernel_rfl, by kernel_rfl, by kernel_rfl⟩ rfl (by kernel_rfl) (fun w' hφ => ⟨((p7_14, (cutL x7_9.f1 ((0 : Int).toNat) ((a2 : Int).toNat)).length) : Hd), rfl, hφ _ (List.mem_of_getElem? (i := 0) rfl)⟩)) (fun _ => by kernel_rfl) (fun _ => ?_)
    refine D.mid (cs := [21]) [3, 4, 5, 15, 20] [16, 19] [(1, 0)] [p0_0, 0] (by kernel_rfl) (by kernel_rfl) (⟨QuAt.mk (v := .pointer (some ⟨p7_9.1, 0 + x2_2.toNat * 3, none⟩)) (some 47) (by kernel_rfl) (by kernel_rfl) (Qu.idx (t := 22) (x := .tmp 32) (y := .tmp 33) (len := x1_1.f0.length) (c := p1_1.2) (kk := .i64) (sz := 3) (by kernel_rfl) (by kernel_rfl) (by kernel_rfl) (by kernel_rfl) hx7_9a (by have := idx_lt hx7_9; simpa only [List.length_set, List.length_replicate] using this) hp7_9A), QuAt.mk (v := .pointer (some ⟨p7_9.1, 0 + x2_2.toNat * 3, none⟩)) (some 49) (by kernel_rfl) (by kernel_rfl) (Qu.idx (t := 22) (x := .tmp 35) (y := .tmp 36) (len := x1_1.f0.length) (c := p1_1.2) (kk := .i64) (sz := 3) (by kernel_rfl) (by kernel_rfl) (by kernel_rfl) (by kernel_rfl) hx7_9a (by have := idx_lt hx7_9; simpa only [List.length_set, List.length_replicate] using this) hp7_9A), trivial⟩) (by kernel_rfl) ⟨?_, trivial⟩
    refine EvStep.mk none (new := fun _ => []) ([] ++ [19]) (by kernel_rfl) (Ev.storeR (t := 3) (x := .tmp 50) (y := .tmp 46) (hh := p1_1) (m := x1_1.f0.length) (g := p7_9.1) (i := x2_2.toNat) (f := 2) (s := 1) (u := .pointer (some ⟨p7_9.1, 0 + x2_2.toNat * 3 + 2, none⟩)) (z := .int .i64 a2) (cs := [.string x7_9.f0, .slice ((p7_14, (cutL x7_9.f1 ((0 : Int).toNat) ((a2 : Int).toNat)).length) : Hd).1 (cutL x7_9.f1 ((0 : Int).toNat) ((a2 : Int).toNat)).length ((p7_14, (cutL x7_9.f1 ((0 : Int).toNat) ((a2 : Int).toNat)).length) : Hd).2, .int .i64 x7_9.f2]) (ncs := [.string x7_9.f0, .slice ((p7_14, (cutL x7_9.f1 ((0 : Int).toNat) ((a2 : Int).toNat)).length) : Hd).1 (cutL x7_9.f1 ((0 : Int).toNat) ((a2 : Int).toNat)).length ((p7_14, (cutL x7_9.f1 ((0 : Int).toNat) ((a2 : Int).toNat)).length) : Hd).2, .int .i64 a2]) (⟨x7_9.f0, (cutL x7_9.f1 ((0 : Int).toNat) ((a2 : Int).toNat)), a2⟩ : S70) (some 0) (by kernel_rfl) (by kernel_rfl) rfl (by kernel_rfl) hp7_9A (by have := idx_lt hx7_9; simpa only [List.length_set] using this) ⟨by kernel_rfl, by kernel_rfl, by kernel_rfl, by kernel_rfl⟩ rfl (by kernel_rfl) (fun w' hφ => ⟨((p7_14, (cutL x7_9.f1 ((0 : Int).toNat) ((a2 : Int).toNat)).length) : Hd), rfl, hφ _ (List.mem_of_getElem? (i := 0) rfl)⟩)) (fun _ => by kernel_rfl) (fun _ => ?_)
    refine D.fin (fr' := [(3, .pointer (some ⟨p0_0, 0, none⟩)), (6, .pointer (some ⟨p0_1, 0, none⟩))]) [] [19] [] [] [3, 6] (by kernel_rfl) (by kernel_rfl) (⟨QuAt.mk (v := .pointer (some ⟨p7_9.1, 0 + x2_2.toNat * 3, none⟩)) (some 49) (by kernel_rfl) (by kernel_rfl) (Qu.idx (t := 22) (x := .tmp 35) (y := .tmp 36) (len := x1_1.f0.length) (c := p1_1.2) (kk := .i64) (sz := 3) (by kernel_rfl) (by kernel_rfl) (by kernel_rfl) (by kernel_rfl) hx7_9a (by have := idx_lt hx7_9; simpa only [List.length_set, List.length_replicate] using this) hp7_9A), trivial⟩) (by kernel_rfl) ?_
    refine J.mono (fun w hS => hS.unpk) ?_
    refine J.renS [3, 6] (fr1 := [(3, .pointer (some ⟨p0_0, 0, none⟩)), (6, .pointer (some ⟨p0_1, 0, none⟩))]) (bx1 := [⟨p0_1, [.slice none 0 0], 24⟩, ⟨p0_0, [.slice p1_1.1 x1_1.f0.length p1_1.2], 24⟩]) (rw1 := [mkRow kd70 70 (.slice p1_1.1 x1_1.f0.length p1_1.2) ((x1_1.f0.set x2_2.toNat (⟨x7_9.f0, (cutL x7_9.f1 ((0 : Int).toNat) ((a2 : Int).toNat)), x7_9.f2⟩ : S70)).set x2_2.toNat (⟨x7_9.f0, (cutL x7_9.f1 ((0 : Int).toNat) ((a2 : Int).toNat)), a2⟩ : S70))]) (fr' := [(3, .pointer (some ⟨p0_0, 0, none⟩)), (6, .pointer (some ⟨p0_1, 0, none⟩))]) (bx' := [⟨p0_1, [.slice none 0 0], 24⟩, ⟨p0_0, [.slice p1_1.1 ((x1_1.f0.set x2_2.toNat (⟨x7_9.f0, (cutL x7_9.f1 ((0 : Int).toNat) ((a2 : Int).toNat)), x7_9.f2⟩ : S70)).set x2_2.toNat (⟨x7_9.f0, (cutL x7_9.f1 ((0 : Int).toNat) ((a2 : Int).toNat)), a2⟩ : S70)).length p1_1.2], 24⟩]) (rw' := [mkRow kd70 70 (.slice p1_1.1 ((x1_1.f0.set x2_2.toNat (⟨x7_9.f0, (cutL x7_9.f1 ((0 : Int).toNat) ((a2 : Int).toNat)), x7_9.f2⟩ : S70)).set x2_2.toNat (⟨x7_9.f0, (cutL x7_9.f1 ((0 : Int).toNat) ((a2 : Int).toNat)), a2⟩ : S70)).length p1_1.2) ((x1_1.f0.set x2_2.toNat (⟨x7_9.f0, (cutL x7_9.f1 ((0 : Int).toNat) ((a2 : Int).toNat)), x7_9.f2⟩ : S70)).set x2_2.toNat (⟨x7_9.f0, (cutL x7_9.f1 ((0 : Int).toNat) ((a2 : Int).toNat)), a2⟩ : S70))]) (by kernel_rfl) (by kernel_rfl) (by simp only [List.length_set, List.length_replicate]) ?_
    refine J.seq (by kernel_rfl) ?_
    refine J.region (by kernel_rfl) ?_
    refine O.pure 3 [(1, 0), (0, 0)] [6, 7] [p0_0, 0, p0_1, 0] (fr' := [(6, .pointer (some ⟨p0_1, 0, none⟩)), (7, .int .i64 0)]) (bx' := [⟨p0_1, [.slice p1_1.1 ((x1_1.f0.set x2_2.toNat (⟨x7_9.f0, (cutL x7_9.f1 ((0 : Int).toNat) ((a2 : Int).toNat)), x7_9.f2⟩ : S70)).set x2_2.toNat (⟨x7_9.f0, (cutL x7_9.f1 ((0 : Int).toNat) ((a2 : Int).toNat)), a2⟩ : S70)).length p1_1.2], 24⟩, ⟨p0_0, [.slice p1_1.1 ((x1_1.f0.set x2_2.toNat (⟨x7_9.f0, (cutL x7_9.f1 ((0 : Int).toNat) ((a2 : Int).toNat)), x7_9.f2⟩ : S70)).set x2_2.toNat (⟨x7_9.f0, (cutL x7_9.f1 ((0 : Int).toNat) ((a2 : Int).toNat)), a2⟩ : S70)).length p1_1.2], 24⟩]) (by kernel_rfl) ?_
    refine O.nil (by kernel_rfl) ?_
    obtain rfl := Option.some.inj H
    exact J.doneS [(0, 0)] [p0_1, 0] [] [] [0] p1_1 (vs := [.agg #[.slice p1_1.1 ((x1_1.f0.set x2_2.toNat (⟨x7_9.f0, (cutL x7_9.f1 ((0 : Int).toNat) ((a2 : Int).toNat)), x7_9.f2⟩ : S70)).set x2_2.toNat (⟨x7_9.f0, (cutL x7_9.f1 ((0 : Int).toNat) ((a2 : Int).toNat)), a2⟩ : S70)).length p1_1.2], .int .i64 0]) (by kernel_rfl) (by kernel_rfl) (by kernel_rfl) (by kernel_rfl) (by kernel_rfl) (by decide)
/-! ### haywain/ckpt.Open: function 24 -/
def ckpt_Open.f (K : Nat) (a0 : S24) : Option (S24 × Int) := (ckpt_read.f K a0).bind fun x1_1 => cond (!x1_1.2.2.2) (some ((a0, 2))) (cond (x1_1.2.1 == x1_1.2.2.1) (some ((a0, 0))) ((disk_Cut.f K a0 (⟨#[109]⟩ : ByteArray) x1_1.2.1).bind fun x6_2 => some ((x6_2.1, x6_2.2))))
set_option maxRecDepth 100000 in
set_option maxHeartbeats 1000000 in
theorem ckpt_Open.con (K : Nat) (a0 : S24) (h0 : Hd) (r : (S24 × Int)) (X : Nat → Nat → Prop) (w : World) (hS : St X w [] [] [] [] [Rd kd70 h0.1 h0.2 a0.f0] w) (H : ckpt_Open.f K a0 = some r) :
    Cn Try.prog 24 [.agg #[.slice h0.1 a0.f0.length h0.2]] X w [] (fun i : Hd => .tuple #[.agg #[.slice i.1 r.1.f0.length i.2], .int .i64 r.2]) (fun i => []) (fun i => []) (fun i => [Rd kd70 i.1 i.2 r.1.f0]) := by
 refine Cn.of Try.func24 (by kernel_rfl) hS ?_
 unfold ckpt_Open.f at H
 refine J.seq (by kernel_rfl) ?_
 refine J.region (by kernel_rfl) ?_
 refine O.e (some 1) (Ev.box (t := 24) (x := .tmp 0) (v := .agg #[.slice h0.1 a0.f0.length h0.2]) (by kernel_rfl) (by kernel_rfl)) (by kernel_rfl) (fun p0_0 => ?_)
 refine O.e (some 2) (Ev.alloc (t := 24) (z := .agg #[.slice none 0 0]) (by kernel_rfl) (by kernel_rfl)) (by kernel_rfl) (fun p0_1 => ?_)
 refine O.pure 1 [] [1, 2] [] (fr' := [(1, .pointer (some ⟨p0_0, 0, none⟩)), (2, .pointer (some ⟨p0_1, 0, none⟩))]) (bx' := [⟨p0_1, [.slice none 0 0], 24⟩, ⟨p0_0, [.slice h0.1 a0.f0.length h0.2], 24⟩]) (by kernel_rfl) ?_
 refine O.nil (by kernel_rfl) ?_
 refine J.seq (by kernel_rfl) ?_
 obtain ⟨x1_1, hx1_1, H⟩ := bindE H
 refine J.region (by kernel_rfl) ?_
 refine O.pure 1 [(1, 0)] [1, 2, 9] [p0_0, 0] (fr' := [(1, .pointer (some ⟨p0_0, 0, none⟩)), (2, .pointer (some ⟨p0_1, 0, none⟩)), (9, .agg #[.slice h0.1 a0.f0.length h0.2])]) (bx' := [⟨p0_1, [.slice none 0 0], 24⟩, ⟨p0_0, [.slice h0.1 a0.f0.length h0.2], 24⟩]) (by kernel_rfl) ?_
 refine O.e (some 10) (Ev.call0 (xs := [.tmp 9]) [0] (by kernel_rfl) (by kernel_rfl) (fun w hS => ckpt_read.con K a0 h0  _ _ w hS hx1_1)) (by kernel_rfl) (fun _ => ?_)
 refine O.pure 9 [] [1, 2, 5, 6, 7] [] (fr' := [(1, .pointer (some ⟨p0_0, 0, none⟩)), (2, .pointer (some ⟨p0_1, 0, none⟩)), (5, .int .i64 x1_1.2.1), (6, .int .i64 x1_1.2.2.1), (7, .bool x1_1.2.2.2)]) (bx' := [⟨p0_1, [.slice none 0 0], 24⟩, ⟨p0_0, [.slice h0.1 a0.f0.length h0.2], 24⟩]) (by kernel_rfl) ?_
 refine O.nil (by kernel_rfl) ?_
 refine J.seq (by kernel_rfl) ?_
 refine J.seq (by kernel_rfl) ?_
 refine J.region (by kernel_rfl) ?_
 refine O.pure 2 [] [1, 2, 5, 6, 16] [] (fr' := [(1, .pointer (some ⟨p0_0, 0, none⟩)), (2, .pointer (some ⟨p0_1, 0, none⟩)), (5, .int .i64 x1_1.2.1), (6, .int .i64 x1_1.2.2.1), (16, .bool (!x1_1.2.2.2))]) (bx' := [⟨p0_1, [.slice none 0 0], 24⟩, ⟨p0_0, [.slice h0.1 a0.f0.length h0.2], 24⟩]) (by kernel_rfl) ?_
 refine O.nil (by kernel_rfl) ?_
 rcases condE H with ⟨hc1, H⟩ | ⟨hc1, H⟩
 ·refine J.condT (x := .tmp 16) (t := (!x1_1.2.2.2)) (by kernel_rfl) (by kernel_rfl) hc1 ?_
  refine J.seq (by kernel_rfl) ?_
  refine J.region (by kernel_rfl) ?_
  refine O.pure 3 [(1, 0), (0, 0)] [2, 3] [p0_0, 0, p0_1, 0] (fr' := [(2, .pointer (some ⟨p0_1, 0, none⟩)), (3, .int .i64 2)]) (bx' := [⟨p0_1, [.slice h0.1 a0.f0.length h0.2], 24⟩, ⟨p0_0, [.slice h0.1 a0.f0.length h0.2], 24⟩]) (by kernel_rfl) ?_
  refine O.nil (by kernel_rfl) ?_
  obtain rfl := Option.some.inj H
  exact J.doneS [(0, 0)] [p0_1, 0] [0] [] [] h0 (vs := [.agg #[.slice h0.1 a0.f0.length h0.2], .int .i64 2]) (by kernel_rfl) (by kernel_rfl) (by kernel_rfl) (by kernel_rfl) (by kernel_rfl) (by decide)
 ·refine J.condF (x := .tmp 16) (t := (!x1_1.2.2.2)) (by kernel_rfl) (by kernel_rfl) hc1 ?_
  refine J.skip (by kernel_rfl) ?_
  refine J.seq (by kernel_rfl) ?_
  refine J.seq (by kernel_rfl) ?_
  refine J.region (by kernel_rfl) ?_
  refine O.pure 3 [] [1, 2, 5, 20] [] (fr' := [(1, .pointer (some ⟨p0_0, 0, none⟩)), (2, .pointer (some ⟨p0_1, 0, none⟩)), (5, .int .i64 x1_1.2.1), (20, .bool (x1_1.2.1 == x1_1.2.2.1))]) (bx' := [⟨p0_1, [.slice none 0 0], 24⟩, ⟨p0_0, [.slice h0.1 a0.f0.length h0.2], 24⟩]) (by kernel_rfl) ?_
  refine O.nil (by kernel_rfl) ?_
  rcases condE H with ⟨hc2, H⟩ | ⟨hc2, H⟩
  ·refine J.condT (x := .tmp 20) (t := (x1_1.2.1 == x1_1.2.2.1)) (by kernel_rfl) (by kernel_rfl) hc2 ?_
   refine J.seq (by kernel_rfl) ?_
   refine J.region (by kernel_rfl) ?_
   refine O.pure 3 [(1, 0), (0, 0)] [2, 3] [p0_0, 0, p0_1, 0] (fr' := [(2, .pointer (some ⟨p0_1, 0, none⟩)), (3, .int .i64 0)]) (bx' := [⟨p0_1, [.slice h0.1 a0.f0.length h0.2], 24⟩, ⟨p0_0, [.slice h0.1 a0.f0.length h0.2], 24⟩]) (by kernel_rfl) ?_
   refine O.nil (by kernel_rfl) ?_
   obtain rfl := Option.some.inj H
   exact J.doneS [(0, 0)] [p0_1, 0] [0] [] [] h0 (vs := [.agg #[.slice h0.1 a0.f0.length h0.2], .int .i64 0]) (by kernel_rfl) (by kernel_rfl) (by kernel_rfl) (by kernel_rfl) (by kernel_rfl) (by decide)
  ·refine J.condF (x := .tmp 20) (t := (x1_1.2.1 == x1_1.2.2.1)) (by kernel_rfl) (by kernel_rfl) hc2 ?_
   refine J.skip (by kernel_rfl) ?_
   refine J.seq (by kernel_rfl) ?_
   obtain ⟨x6_2, hx6_2, H⟩ := bindE H
   refine J.region (by kernel_rfl) ?_
   refine O.pure 2 [(1, 0)] [2, 22, 23] [p0_0, 0] (fr' := [(2, .pointer (some ⟨p0_1, 0, none⟩)), (22, .agg #[.slice h0.1 a0.f0.length h0.2]), (23, .int .i64 x1_1.2.1)]) (bx' := [⟨p0_1, [.slice none 0 0], 24⟩, ⟨p0_0, [.slice h0.1 a0.f0.length h0.2], 24⟩]) (by kernel_rfl) ?_
   refine O.e (some 24) (Ev.call0 (xs := [.tmp 22, .const (.string (⟨#[109]⟩ : ByteArray)), .tmp 23]) [0] (by kernel_rfl) (by kernel_rfl) (fun w hS => disk_Cut.con K a0 (⟨#[109]⟩ : ByteArray) x1_1.2.1 h0  _ _ w hS hx6_2)) (by kernel_rfl) (fun p6_2 => ?_)
   refine O.pure 4 [(0, 0)] [2, 3] [p0_1, 0] (fr' := [(2, .pointer (some ⟨p0_1, 0, none⟩)), (3, .int .i64 x6_2.2)]) (bx' := [⟨p0_1, [.slice p6_2.1 x6_2.1.f0.length p6_2.2], 24⟩, ⟨p0_0, [.slice h0.1 a0.f0.length h0.2], 24⟩]) (by kernel_rfl) ?_
   refine O.nil (by kernel_rfl) ?_
   obtain rfl := Option.some.inj H
   refine J.mono (fun w hS => hS.freezeH (h := p6_2) (xs := x6_2.1.f0)) ?_
   exact J.doneS [(0, 0)] [p0_1, 0] [0] [] [] p6_2 (vs := [.agg #[.slice p6_2.1 x6_2.1.f0.length p6_2.2], .int .i64 x6_2.2]) (by kernel_rfl) (by kernel_rfl) (by kernel_rfl) (by kernel_rfl) (by kernel_rfl) (by decide)
/-! ### haywain/haywainref13.Cut: function 51 -/
def haywainref13_Cut.f (K : Nat) (a0 : List S85) (a1 : ByteArray) (a2 : Int) : Option ((List S85) × Int) := (haywainref13_Good.f K a0).bind fun x1_1 => (haywainref13_Has.f K x1_1 a1).bind fun x2_2 => cond (!x2_2) (some ((x1_1, 4))) (cond (decide (a2 < 0)) (some ((x1_1, 1))) ((haywainref13_Get.f K x1_1 a1).bind fun x4_6 => cond (decide (a2 > (x4_6.length : Int))) (some ((x1_1, 1))) ((haywainref13_Get.f K x1_1 a1).bind fun x6_4 => (cutO x6_4 0 a2).bind fun y6_6 => (haywainref13_with.f K x1_1 (⟨a1, (cutL x6_4 ((0 : Int).toNat) ((a2 : Int).toNat)), a2⟩ : S85)).bind fun x6_9 => some ((x6_9, 0)))))
set_option maxRecDepth 100000 in
set_option maxHeartbeats 1000000 in
theorem haywainref13_Cut.con (K : Nat) (a0 : List S85) (a1 : ByteArray) (a2 : Int) (h0 : Hd) (r : ((List S85) × Int)) (X : Nat → Nat → Prop) (w : World) (hS : St X w [] [] [] [] [Rd kd85 h0.1 h0.2 a0] w) (H : haywainref13_Cut.f K a0 a1 a2 = some r) :
    Cn Try.prog 51 [.slice h0.1 a0.length h0.2, .string a1, .int .i64 a2] X w [] (fun i : Hd => .tuple #[.slice i.1 r.1.length i.2, .int .i64 r.2]) (fun i => []) (fun i => []) (fun i => [Rd kd85 i.1 i.2 r.1]) := by
 refine Cn.of Try.func51 (by kernel_rfl) hS ?_
 unfold haywainref13_Cut.f at H
 refine J.seq (by kernel_rfl) ?_
 refine J.region (by kernel_rfl) ?_
 refine O.pure 2 [] [0, 1, 2] [] (fr' := [(0, .slice h0.1 a0.length h0.2), (1, .string a1), (2, .int .i64 a2)]) (bx' := []) (by kernel_rfl) ?_
 refine O.nil (by kernel_rfl) ?_
 refine J.seq (by kernel_rfl) ?_
 obtain ⟨x1_1, hx1_1, H⟩ := bindE H
 refine J.region (by kernel_rfl) ?_
 refine O.pure 1 [] [0, 1, 2, 8] [] (fr' := [(0, .slice h0.1 a0.length h0.2), (1, .string a1), (2, .int .i64 a2), (8, .slice h0.1 a0.length h0.2)]) (bx' := []) (by kernel_rfl) ?_
 refine O.e (some 9) (Ev.call0 (xs := [.tmp 8]) [0] (by kernel_rfl) (by kernel_rfl) (fun w hS => haywainref13_Good.con K a0 h0  _ _ w hS hx1_1)) (by kernel_rfl) (fun p1_1 => ?_)
 refine O.pure 1 [] [0, 1, 2] [] (fr' := [(0, .slice p1_1.1 x1_1.length p1_1.2), (1, .string a1), (2, .int .i64 a2)]) (bx' := []) (by kernel_rfl) ?_
 refine O.nil (by kernel_rfl) ?_
 refine J.seq (by kernel_rfl) ?_
 refine J.seq (by kernel_rfl) ?_
 obtain ⟨x2_2, hx2_2, H⟩ := bindE H
 refine J.region (by kernel_rfl) ?_
 refine O.pure 2 [] [0, 1, 2, 10, 11] [] (fr' := [(0, .slice p1_1.1 x1_1.length p1_1.2), (1, .string a1), (2, .int .i64 a2), (10, .slice p1_1.1 x1_1.length p1_1.2), (11, .string a1)]) (bx' := []) (by kernel_rfl) ?_
 refine O.e (some 12) (Ev.call0 (xs := [.tmp 10, .tmp 11]) [0] (by kernel_rfl) (by kernel_rfl) (fun w hS => haywainref13_Has.con K x1_1 a1 p1_1  _ _ w hS hx2_2)) (by kernel_rfl) (fun _ => ?_)
 refine O.pure 1 [] [0, 1, 2, 13] [] (fr' := [(0, .slice p1_1.1 x1_1.length p1_1.2), (1, .string a1), (2, .int .i64 a2), (13, .bool (!x2_2))]) (bx' := []) (by kernel_rfl) ?_
 refine O.nil (by kernel_rfl) ?_
 rcases condE H with ⟨hc1, H⟩ | ⟨hc1, H⟩
 ·refine J.condT (x := .tmp 13) (t := (!x2_2)) (by kernel_rfl) (by kernel_rfl) hc1 ?_
  refine J.seq (by kernel_rfl) ?_
  refine J.region (by kernel_rfl) ?_
  refine O.pure 3 [] [6, 7] [] (fr' := [(6, .slice p1_1.1 x1_1.length p1_1.2), (7, .int .i64 4)]) (bx' := []) (by kernel_rfl) ?_
  refine O.nil (by kernel_rfl) ?_
  obtain rfl := Option.some.inj H
  exact J.doneS [] [] [0] [] [] p1_1 (vs := [.slice p1_1.1 x1_1.length p1_1.2, .int .i64 4]) (by kernel_rfl) (by kernel_rfl) (by kernel_rfl) (by kernel_rfl) (by kernel_rfl) (by decide)
 ·refine J.condF (x := .tmp 13) (t := (!x2_2)) (by kernel_rfl) (by kernel_rfl) hc1 ?_
  refine J.skip (by kernel_rfl) ?_
  refine J.seq (by kernel_rfl) ?_
  refine J.seq (by kernel_rfl) ?_
  rcases condE H with ⟨hc2, H⟩ | ⟨hc2, H⟩
  ·refine J.region (by kernel_rfl) ?_
   refine O.pure 1 [] [0, 1, 2, 15] [] (fr' := [(0, .slice p1_1.1 x1_1.length p1_1.2), (1, .string a1), (2, .int .i64 a2), (15, .int .i64 a2)]) (bx' := []) (by kernel_rfl) ?_
   refine O.q (v := .bool true) (some 16) (Qu.eqv (u := .bool (decide (a2 < 0))) (v := .bool true) (0, 0) [] (by kernel_rfl) (congrArg Value.bool hc2)) (by kernel_rfl) ?_
   refine O.pure 8 [] [0, 1, 2, 24] [] (fr' := [(0, .slice p1_1.1 x1_1.length p1_1.2), (1, .string a1), (2, .int .i64 a2), (24, .bool true)]) (bx' := []) (by kernel_rfl) ?_
   refine O.nil (by kernel_rfl) ?_
   refine J.cond (o := .tmp 24) true (by kernel_rfl) (by kernel_rfl) ?_
   refine J.seq (by kernel_rfl) ?_
   refine J.region (by kernel_rfl) ?_
   refine O.pure 3 [] [6, 7] [] (fr' := [(6, .slice p1_1.1 x1_1.length p1_1.2), (7, .int .i64 1)]) (bx' := []) (by kernel_rfl) ?_
   refine O.nil (by kernel_rfl) ?_
   obtain rfl := Option.some.inj H
   exact J.doneS [] [] [0] [] [] p1_1 (vs := [.slice p1_1.1 x1_1.length p1_1.2, .int .i64 1]) (by kernel_rfl) (by kernel_rfl) (by kernel_rfl) (by kernel_rfl) (by kernel_rfl) (by decide)
  ·obtain ⟨x4_6, hx4_6, H⟩ := bindE H
   refine J.region (by kernel_rfl) ?_
   refine O.pure 1 [] [0, 1, 2, 15] [] (fr' := [(0, .slice p1_1.1 x1_1.length p1_1.2), (1, .string a1), (2, .int .i64 a2), (15, .int .i64 a2)]) (bx' := []) (by kernel_rfl) ?_
   refine O.q (v := .bool false) (some 16) (Qu.eqv (u := .bool (decide (a2 < 0))) (v := .bool false) (0, 0) [] (by kernel_rfl) (congrArg Value.bool hc2)) (by kernel_rfl) ?_
   refine O.pure 4 [] [0, 1, 2, 17, 18, 19, 20] [] (fr' := [(0, .slice p1_1.1 x1_1.length p1_1.2), (1, .string a1), (2, .int .i64 a2), (17, .bool false), (18, .int .i64 a2), (19, .slice p1_1.1 x1_1.length p1_1.2), (20, .string a1)]) (bx' := []) (by kernel_rfl) ?_
   refine O.e (some 21) (Ev.call0 (xs := [.tmp 19, .tmp 20]) [0] (by kernel_rfl) (by kernel_rfl) (fun w hS => haywainref13_Get.con K x1_1 a1 p1_1  _ _ w hS hx4_6)) (by kernel_rfl) (fun p4_6 => ?_)
   refine O.pure 3 [] [0, 1, 2, 24] [] (fr' := [(0, .slice p1_1.1 x1_1.length p1_1.2), (1, .string a1), (2, .int .i64 a2), (24, .bool (decide (a2 > (x4_6.length : Int))))]) (bx' := []) (by kernel_rfl) ?_
   refine O.nil (by kernel_rfl) ?_
   rcases condE H with ⟨hc3, H⟩ | ⟨hc3, H⟩
   ·refine J.condT (x := .tmp 24) (t := (decide (a2 > (x4_6.length : Int)))) (by kernel_rfl) (by kernel_rfl) hc3 ?_
    refine J.seq (by kernel_rfl) ?_
    refine J.region (by kernel_rfl) ?_
    refine O.pure 3 [] [6, 7] [] (fr' := [(6, .slice p1_1.1 x1_1.length p1_1.2), (7, .int .i64 1)]) (bx' := []) (by kernel_rfl) ?_
    refine O.nil (by kernel_rfl) ?_
    obtain rfl := Option.some.inj H
    exact J.doneS [] [] [1] [] [] p1_1 (vs := [.slice p1_1.1 x1_1.length p1_1.2, .int .i64 1]) (by kernel_rfl) (by kernel_rfl) (by kernel_rfl) (by kernel_rfl) (by kernel_rfl) (by decide)
   ·refine J.condF (x := .tmp 24) (t := (decide (a2 > (x4_6.length : Int)))) (by kernel_rfl) (by kernel_rfl) hc3 ?_
    refine J.skip (by kernel_rfl) ?_
    refine J.seq (by kernel_rfl) ?_
    obtain ⟨x6_4, hx6_4, H⟩ := bindE H
    obtain ⟨y6_6, hy6_6, H⟩ := bindE H
    obtain ⟨hy6_6a, hy6_6b, hy6_6c, -⟩ := cutE hy6_6
    obtain ⟨x6_9, hx6_9, H⟩ := bindE H
    refine J.region (by kernel_rfl) ?_
    refine O.pure 4 [] [2, 26, 27, 28, 29] [] (fr' := [(2, .int .i64 a2), (26, .slice p1_1.1 x1_1.length p1_1.2), (27, .string a1), (28, .slice p1_1.1 x1_1.length p1_1.2), (29, .string a1)]) (bx' := []) (by kernel_rfl) ?_
    refine O.e (some 30) (Ev.call0 (xs := [.tmp 28, .tmp 29]) [1] (by kernel_rfl) (by kernel_rfl) (fun w hS => haywainref13_Get.con K x1_1 a1 p1_1  _ _ w hS hx6_4)) (by kernel_rfl) (fun p6_4 => ?_)
    refine O.pure 1 [] [2, 26, 27, 30, 31] [] (fr' := [(2, .int .i64 a2), (26, .slice p1_1.1 x1_1.length p1_1.2), (27, .string a1), (30, .slice p6_4.1 x6_4.length p6_4.2), (31, .int .i64 a2)]) (bx' := []) (by kernel_rfl) ?_
    refine O.e (some 32) (Ev.cut (d := (Kd.int .u8)) (xs := x6_4) (t := 27) (x := .tmp 30) (lo := none) (hi := (some (.tmp 31))) (vlo := none) (vhi := (some (.int .i64 a2))) (A := p6_4.1) (c := p6_4.2) (l := (0 : Int).toNat) (h := (a2 : Int).toNat) 0 (by kernel_rfl) (by kernel_rfl) (by kernel_rfl) (by kernel_rfl) (by kernel_rfl) (Bd.dflt _) (Bd.val _ _ _ (by omega)) (by omega) (by omega) rfl) (by kernel_rfl) (fun p6_6 => ?_)
    refine O.pure 2 [] [26, 34] [] (fr' := [(26, .slice p1_1.1 x1_1.length p1_1.2), (34, .agg #[.string a1, .slice p6_6.1 (cutL x6_4 ((0 : Int).toNat) ((a2 : Int).toNat)).length p6_6.2, .int .i64 a2])]) (bx' := []) (by kernel_rfl) ?_
    refine O.e (some 35) (Ev.call0 (xs := [.tmp 26, .tmp 34]) [3, 0] (by kernel_rfl) (by kernel_rfl) (fun w hS => haywainref13_with.con K x1_1 (⟨a1, (cutL x6_4 ((0 : Int).toNat) ((a2 : Int).toNat)), a2⟩ : S85) p1_1 p6_6  _ _ w hS hx6_9)) (by kernel_rfl) (fun p6_9 => ?_)
    refine O.pure 2 [] [6, 7] [] (fr' := [(6, .slice p6_9.1 x6_9.length p6_9.2), (7, .int .i64 0)]) (bx' := []) (by kernel_rfl) ?_
    refine O.nil (by kernel_rfl) ?_
    obtain rfl := Option.some.inj H
    refine J.mono (fun w hS => hS.freezeH (h := p6_9) (xs := x6_9)) ?_
    exact J.doneS [] [] [0] [] [] p6_9 (vs := [.slice p6_9.1 x6_9.length p6_9.2, .int .i64 0]) (by kernel_rfl) (by kernel_rfl) (by kernel_rfl) (by kernel_rfl) (by kernel_rfl) (by decide)
/-! ### haywain/haywainref14.Open: function 25 -/
def haywainref14_Open.f (K : Nat) (a0 : List S85) : Option ((List S85) × Int) := (haywainref14_List.f K a0).bind fun x1_1 => cond (!x1_1.f3) (some ((a0, 2))) (cond x1_1.f2 ((haywainref13_Cut.f K a0 (⟨#[109]⟩ : ByteArray) x1_1.f1).bind fun x5_3 => some ((x5_3.1, 0))) (some ((a0, 0))))
set_option maxRecDepth 100000 in
set_option maxHeartbeats 1000000 in
theorem haywainref14_Open.con (K : Nat) (a0 : List S85) (h0 : Hd) (r : ((List S85) × Int)) (X : Nat → Nat → Prop) (w : World) (hS : St X w [] [] [] [] [Rd kd85 h0.1 h0.2 a0] w) (H : haywainref14_Open.f K a0 = some r) :
    Cn Try.prog 25 [.slice h0.1 a0.length h0.2] X w [] (fun i : Hd => .tuple #[.slice i.1 r.1.length i.2, .int .i64 r.2]) (fun i => []) (fun i => []) (fun i => [Rd kd85 i.1 i.2 r.1]) := by
 refine Cn.of Try.func25 (by kernel_rfl) hS ?_
 unfold haywainref14_Open.f at H
 refine J.seq (by kernel_rfl) ?_
 refine J.region (by kernel_rfl) ?_
 refine O.pure 2 [] [0] [] (fr' := [(0, .slice h0.1 a0.length h0.2)]) (bx' := []) (by kernel_rfl) ?_
 refine O.nil (by kernel_rfl) ?_
 refine J.seq (by kernel_rfl) ?_
 obtain ⟨x1_1, hx1_1, H⟩ := bindE H
 refine J.region (by kernel_rfl) ?_
 refine O.pure 1 [] [0, 7] [] (fr' := [(0, .slice h0.1 a0.length h0.2), (7, .slice h0.1 a0.length h0.2)]) (bx' := []) (by kernel_rfl) ?_
 refine O.e (some 8) (Ev.call0 (xs := [.tmp 7]) [0] (by kernel_rfl) (by kernel_rfl) (fun w hS => haywainref14_List.con K a0 h0  _ _ w hS hx1_1)) (by kernel_rfl) (fun p1_1 => ?_)
 refine O.e (some 4) (Ev.alloc (t := 79) (z := .agg #[.slice none 0 0, .int .i64 0, .bool false, .bool false]) (by kernel_rfl) (by kernel_rfl)) (by kernel_rfl) (fun p1_2 => ?_)
 refine O.pure 1 [(0, 0)] [0, 4] [p1_2, 0] (fr' := [(0, .slice h0.1 a0.length h0.2), (4, .pointer (some ⟨p1_2, 0, none⟩))]) (bx' := [⟨p1_2, [.slice p1_1.1 x1_1.f0.length p1_1.2, .int .i64 x1_1.f1, .bool x1_1.f2, .bool x1_1.f3], 79⟩]) (by kernel_rfl) ?_
 refine O.nil (by kernel_rfl) ?_
 refine J.seq (by kernel_rfl) ?_
 refine J.seq (by kernel_rfl) ?_
 refine J.region (by kernel_rfl) ?_
 refine O.pure 3 [(0, 3)] [0, 4, 11] [p1_2, 3] (fr' := [(0, .slice h0.1 a0.length h0.2), (4, .pointer (some ⟨p1_2, 0, none⟩)), (11, .bool (!x1_1.f3))]) (bx' := [⟨p1_2, [.slice p1_1.1 x1_1.f0.length p1_1.2, .int .i64 x1_1.f1, .bool x1_1.f2, .bool x1_1.f3], 79⟩]) (by kernel_rfl) ?_
 refine O.nil (by kernel_rfl) ?_
 rcases condE H with ⟨hc1, H⟩ | ⟨hc1, H⟩
 ·refine J.condT (x := .tmp 11) (t := (!x1_1.f3)) (by kernel_rfl) (by kernel_rfl) hc1 ?_
  refine J.seq (by kernel_rfl) ?_
  refine J.region (by kernel_rfl) ?_
  refine O.pure 3 [] [2, 3] [] (fr' := [(2, .slice h0.1 a0.length h0.2), (3, .int .i64 2)]) (bx' := [⟨p1_2, [.slice p1_1.1 x1_1.f0.length p1_1.2, .int .i64 x1_1.f1, .bool x1_1.f2, .bool x1_1.f3], 79⟩]) (by kernel_rfl) ?_
  refine O.nil (by kernel_rfl) ?_
  obtain rfl := Option.some.inj H
  exact J.doneS [] [] [0] [] [] h0 (vs := [.slice h0.1 a0.length h0.2, .int .i64 2]) (by kernel_rfl) (by kernel_rfl) (by kernel_rfl) (by kernel_rfl) (by kernel_rfl) (by decide)
 ·refine J.condF (x := .tmp 11) (t := (!x1_1.f3)) (by kernel_rfl) (by kernel_rfl) hc1 ?_
  refine J.skip (by kernel_rfl) ?_
  refine J.seq (by kernel_rfl) ?_
  refine J.seq (by kernel_rfl) ?_
  refine J.region (by kernel_rfl) ?_
  refine O.pure 2 [(0, 2)] [0, 4, 14] [p1_2, 2] (fr' := [(0, .slice h0.1 a0.length h0.2), (4, .pointer (some ⟨p1_2, 0, none⟩)), (14, .bool x1_1.f2)]) (bx' := [⟨p1_2, [.slice p1_1.1 x1_1.f0.length p1_1.2, .int .i64 x1_1.f1, .bool x1_1.f2, .bool x1_1.f3], 79⟩]) (by kernel_rfl) ?_
  refine O.nil (by kernel_rfl) ?_
  rcases condE H with ⟨hc2, H⟩ | ⟨hc2, H⟩
  ·refine J.condT (x := .tmp 14) (t := x1_1.f2) (by kernel_rfl) (by kernel_rfl) hc2 ?_
   refine J.seq (by kernel_rfl) ?_
   obtain ⟨x5_3, hx5_3, H⟩ := bindE H
   refine J.region (by kernel_rfl) ?_
   refine O.pure 3 [(0, 1)] [16, 18] [p1_2, 1] (fr' := [(16, .slice h0.1 a0.length h0.2), (18, .int .i64 x1_1.f1)]) (bx' := [⟨p1_2, [.slice p1_1.1 x1_1.f0.length p1_1.2, .int .i64 x1_1.f1, .bool x1_1.f2, .bool x1_1.f3], 79⟩]) (by kernel_rfl) ?_
   refine O.e (some 19) (Ev.call0 (xs := [.tmp 16, .const (.string (⟨#[109]⟩ : ByteArray)), .tmp 18]) [0] (by kernel_rfl) (by kernel_rfl) (fun w hS => haywainref13_Cut.con K a0 (⟨#[109]⟩ : ByteArray) x1_1.f1 h0  _ _ w hS hx5_3)) (by kernel_rfl) (fun p5_3 => ?_)
   refine O.pure 5 [] [5] [] (fr' := [(5, .slice p5_3.1 x5_3.1.length p5_3.2)]) (bx' := [⟨p1_2, [.slice p1_1.1 x1_1.f0.length p1_1.2, .int .i64 x1_1.f1, .bool x1_1.f2, .bool x1_1.f3], 79⟩]) (by kernel_rfl) ?_
   refine O.nil (by kernel_rfl) ?_
   refine J.seq (by kernel_rfl) ?_
   refine J.region (by kernel_rfl) ?_
   refine O.pure 3 [] [2, 3] [] (fr' := [(2, .slice p5_3.1 x5_3.1.length p5_3.2), (3, .int .i64 0)]) (bx' := [⟨p1_2, [.slice p1_1.1 x1_1.f0.length p1_1.2, .int .i64 x1_1.f1, .bool x1_1.f2, .bool x1_1.f3], 79⟩]) (by kernel_rfl) ?_
   refine O.nil (by kernel_rfl) ?_
   obtain rfl := Option.some.inj H
   exact J.doneS [] [] [0] [] [] p5_3 (vs := [.slice p5_3.1 x5_3.1.length p5_3.2, .int .i64 0]) (by kernel_rfl) (by kernel_rfl) (by kernel_rfl) (by kernel_rfl) (by kernel_rfl) (by decide)
  ·refine J.condF (x := .tmp 14) (t := x1_1.f2) (by kernel_rfl) (by kernel_rfl) hc2 ?_
   refine J.skip (by kernel_rfl) ?_
   refine J.seq (by kernel_rfl) ?_
   refine J.region (by kernel_rfl) ?_
   refine O.pure 3 [] [2, 3] [] (fr' := [(2, .slice h0.1 a0.length h0.2), (3, .int .i64 0)]) (bx' := [⟨p1_2, [.slice p1_1.1 x1_1.f0.length p1_1.2, .int .i64 x1_1.f1, .bool x1_1.f2, .bool x1_1.f3], 79⟩]) (by kernel_rfl) ?_
   refine O.nil (by kernel_rfl) ?_
   obtain rfl := Option.some.inj H
   exact J.doneS [] [] [0] [] [] h0 (vs := [.slice h0.1 a0.length h0.2, .int .i64 0]) (by kernel_rfl) (by kernel_rfl) (by kernel_rfl) (by kernel_rfl) (by kernel_rfl) (by decide)
/-! ### haywain/haywainlaw14.kept: function 26 -/
def haywainlaw14_kept.l1 (K : Nat) (a0 : List (List Int)) : Nat → (Int × Int × (List S70)) → Option (S24 × Int × Bool)
  | 0, _ => none
  | k + 1, s1 => cond (decide (s1.2.1 < (a0.length : Int))) (cond (decide (s1.2.1 < 10)) ((idxO a0 s1.2.1).bind fun x6_2 => cond (decide ((x6_2.length : Int) > 500)) (haywainlaw14_kept.l1 K a0 k (s1.1, (IntKind.wrap .i64 (s1.2.1 + 1)), s1.2.2)) ((idxO a0 s1.2.1).bind fun x8_5 => (appO 1 ([] : List Int) x8_5).bind fun y8_7 => (ckpt_Save.f K (⟨s1.2.2⟩ : S24) (IntKind.wrap .i64 (s1.1 + 1)) (([] : List Int) ++ x8_5)).bind fun x8_8 => cond (x8_8.2 != 0) (some (((⟨s1.2.2⟩ : S24), (IntKind.wrap .i64 (s1.1 + 1)), false))) ((ckpt_Do.f K (⟨s1.2.2⟩ : S24) x8_8.1 (x8_8.1.length : Int)).bind fun x11_4 => cond (x11_4.2 != (x8_8.1.length : Int)) (some (((⟨s1.2.2⟩ : S24), (IntKind.wrap .i64 (s1.1 + 1)), false))) (haywainlaw14_kept.l1 K a0 k ((IntKind.wrap .i64 (s1.1 + 1)), (IntKind.wrap .i64 (s1.2.1 + 1)), x11_4.1.f0))))) (some (((⟨s1.2.2⟩ : S24), s1.1, true)))) (some (((⟨s1.2.2⟩ : S24), s1.1, true)))
def haywainlaw14_kept.f (K : Nat) (a0 : List (List Int)) : Option (S24 × Int × Bool) := haywainlaw14_kept.l1 K a0 K (0, 0, ([] : List S70))
set_option maxRecDepth 100000 in
set_option maxHeartbeats 1000000 in
theorem haywainlaw14_kept.con (K : Nat) (a0 : List (List Int)) (h0 : Hd) (r : (S24 × Int × Bool)) (X : Nat → Nat → Prop) (w : World) (hS : St X w [] [] [] [] [Rd (Kd.slice (Kd.int .u8)) h0.1 h0.2 a0] w) (H : haywainlaw14_kept.f K a0 = some r) :
    Cn Try.prog 26 [.slice h0.1 a0.length h0.2] X w [] (fun i : Hd => .tuple #[.agg #[.slice i.1 r.1.f0.length i.2], .int .i64 r.2.1, .bool r.2.2]) (fun i => []) (fun i => []) (fun i => [Rd kd70 i.1 i.2 r.1.f0]) := by
 refine Cn.of Try.func26 (by kernel_rfl) hS ?_
 unfold haywainlaw14_kept.f at H
 refine J.seq (by kernel_rfl) ?_
 refine J.region (by kernel_rfl) ?_
 refine O.e (some 2) (Ev.alloc (t := 24) (z := .agg #[.slice none 0 0]) (by kernel_rfl) (by kernel_rfl)) (by kernel_rfl) (fun p0_0 => ?_)
 refine O.pure 2 [] [0, 2] [] (fr' := [(0, .slice h0.1 a0.length h0.2), (2, .pointer (some ⟨p0_0, 0, none⟩))]) (bx' := [⟨p0_0, [.slice none 0 0], 24⟩]) (by kernel_rfl) ?_
 refine O.nil (by kernel_rfl) ?_
 refine J.seq (by kernel_rfl) ?_
 refine J.region (by kernel_rfl) ?_
 refine O.e (some 5) (Ev.alloc (t := 24) (z := .agg #[.slice none 0 0]) (by kernel_rfl) (by kernel_rfl)) (by kernel_rfl) (fun p1_0 => ?_)
 refine O.nil (by kernel_rfl) ?_
 refine J.seq (by kernel_rfl) ?_
 refine J.region (by kernel_rfl) ?_
 refine O.pure 1 [] [0, 2, 5, 6] [] (fr' := [(0, .slice h0.1 a0.length h0.2), (2, .pointer (some ⟨p0_0, 0, none⟩)), (5, .pointer (some ⟨p1_0, 0, none⟩)), (6, .int .i64 0)]) (bx' := [⟨p1_0, [.slice none 0 0], 24⟩, ⟨p0_0, [.slice none 0 0], 24⟩]) (by kernel_rfl) ?_
 refine O.nil (by kernel_rfl) ?_
 refine J.seq (by kernel_rfl) ?_
 refine J.seq (by kernel_rfl) ?_
 refine J.region (by kernel_rfl) ?_
 refine O.pure 1 [] [0, 2, 5, 6, 7] [] (fr' := [(0, .slice h0.1 a0.length h0.2), (2, .pointer (some ⟨p0_0, 0, none⟩)), (5, .pointer (some ⟨p1_0, 0, none⟩)), (6, .int .i64 0), (7, .int .i64 0)]) (bx' := [⟨p1_0, [.slice none 0 0], 24⟩, ⟨p0_0, [.slice none 0 0], 24⟩]) (by kernel_rfl) ?_
 refine O.nil (by kernel_rfl) ?_
 refine J.block (id := 0) (by kernel_rfl) ?_
 refine J.loopI (σ := Int × Int × (List S70)) (γ := Hd) (f := fun m_ s_ => haywainlaw14_kept.l1 K a0 m_ s_) (fun s1 g1 => [(0, .slice h0.1 a0.length h0.2), (2, .pointer (some ⟨p0_0, 0, none⟩)), (5, .pointer (some ⟨p1_0, 0, none⟩)), (6, .int .i64 s1.1), (7, .int .i64 s1.2.1)]) (fun s1 g1 => St X w [] [⟨p1_0, [.slice g1.1 s1.2.2.length g1.2], 24⟩, ⟨p0_0, [.slice none 0 0], 24⟩] [] [] [Rd kd70 g1.1 g1.2 s1.2.2, Rd (Kd.slice (Kd.int .u8)) h0.1 h0.2 a0]) K (0, 0, ([] : List S70)) (none, 0) (by kernel_rfl) H (fun _ => rfl) (fun m_ s1 H ih1 g1 => ?_) (fun h_ => ?_)
 ·unfold haywainlaw14_kept.l1 at H
  refine J.seq (by kernel_rfl) ?_
  refine J.seq (by kernel_rfl) ?_
  rcases condE H with ⟨hc11, H⟩ | ⟨hc11, H⟩
  ·refine J.region (by kernel_rfl) ?_
   refine O.pure 3 [] [0, 2, 5, 6, 7, 12, 14] [] (fr' := [(0, .slice h0.1 a0.length h0.2), (2, .pointer (some ⟨p0_0, 0, none⟩)), (5, .pointer (some ⟨p1_0, 0, none⟩)), (6, .int .i64 s1.1), (7, .int .i64 s1.2.1), (12, .int .i64 s1.2.1), (14, .int .i64 (a0.length : Int))]) (bx' := [⟨p1_0, [.slice g1.1 s1.2.2.length g1.2], 24⟩, ⟨p0_0, [.slice none 0 0], 24⟩]) (by kernel_rfl) ?_
   refine O.q (v := .bool true) (some 15) (Qu.eqv (u := .bool (decide (s1.2.1 < (a0.length : Int)))) (v := .bool true) (0, 0) [] (by kernel_rfl) (congrArg Value.bool hc11)) (by kernel_rfl) ?_
   refine O.pure 4 [] [0, 2, 5, 6, 7, 17, 18, 19] [] (fr' := [(0, .slice h0.1 a0.length h0.2), (2, .pointer (some ⟨p0_0, 0, none⟩)), (5, .pointer (some ⟨p1_0, 0, none⟩)), (6, .int .i64 s1.1), (7, .int .i64 s1.2.1), (17, .int .i64 s1.2.1), (18, .bool (decide (s1.2.1 < 10))), (19, .bool (decide (s1.2.1 < 10)))]) (bx' := [⟨p1_0, [.slice g1.1 s1.2.2.length g1.2], 24⟩, ⟨p0_0, [.slice none 0 0], 24⟩]) (by kernel_rfl) ?_
   refine O.nil (by kernel_rfl) ?_
   rcases condE H with ⟨hc12, H⟩ | ⟨hc12, H⟩
   ·refine J.condT (x := .tmp 19) (t := (decide (s1.2.1 < 10))) (by kernel_rfl) (by kernel_rfl) hc12 ?_
    refine J.skip (by kernel_rfl) ?_
    refine J.seq (by kernel_rfl) ?_
    refine J.block (id := 1) (by kernel_rfl) ?_
    refine J.seq (by kernel_rfl) ?_
    refine J.seq (by kernel_rfl) ?_
    obtain ⟨x6_2, hx6_2, H⟩ := bindE H
    obtain ⟨hx6_2a, hx6_2⟩ := idxE hx6_2
    refine J.region (by kernel_rfl) ?_
    refine O.pure 2 [] [0, 2, 5, 6, 7, 17, 18, 22, 23] [] (fr' := [(0, .slice h0.1 a0.length h0.2), (2, .pointer (some ⟨p0_0, 0, none⟩)), (5, .pointer (some ⟨p1_0, 0, none⟩)), (6, .int .i64 s1.1), (7, .int .i64 s1.2.1), (17, .int .i64 s1.2.1), (18, .bool (decide (s1.2.1 < 10))), (22, .slice h0.1 a0.length h0.2), (23, .int .i64 s1.2.1)]) (bx' := [⟨p1_0, [.slice g1.1 s1.2.2.length g1.2], 24⟩, ⟨p0_0, [.slice none 0 0], 24⟩]) (by kernel_rfl) ?_
    refine O.open (d := (Kd.slice (Kd.int .u8))) (h := h0) (i := s1.2.1) 1 rfl hx6_2 (Lay.slice _ _) (fun p6_2 hp6_2A => ?_)
    refine O.q (v := .pointer (some ⟨p6_2.1, p6_2.2.1 + s1.2.1.toNat * 1, none⟩)) (some 24) (Qu.idx (t := 58) (x := .tmp 22) (y := .tmp 23) (c := h0.2) (kk := .i64) (sz := 1) (by kernel_rfl) (by kernel_rfl) (by kernel_rfl) (by kernel_rfl) hx6_2a (idx_lt hx6_2) hp6_2A) (by kernel_rfl) ?_
    refine O.pure 3 [(2, 0)] [0, 2, 5, 6, 7, 17, 18, 27] [p6_2.1, p6_2.2.1 + s1.2.1.toNat * 1] (fr' := [(0, .slice h0.1 a0.length h0.2), (2, .pointer (some ⟨p0_0, 0, none⟩)), (5, .pointer (some ⟨p1_0, 0, none⟩)), (6, .int .i64 s1.1), (7, .int .i64 s1.2.1), (17, .int .i64 s1.2.1), (18, .bool (decide (s1.2.1 < 10))), (27, .bool (decide ((x6_2.length : Int) > 500)))]) (bx' := [⟨p1_0, [.slice g1.1 s1.2.2.length g1.2], 24⟩, ⟨p0_0, [.slice none 0 0], 24⟩]) (by kernel_rfl) ?_
    refine O.nil (by kernel_rfl) ?_
    rcases condE H with ⟨hc13, H⟩ | ⟨hc13, H⟩
    ·refine J.condT (x := .tmp 27) (t := (decide ((x6_2.length : Int) > 500))) (by kernel_rfl) (by kernel_rfl) hc13 ?_
     refine J.exit (id := 1) (by kernel_rfl) rfl ?_
     refine J.region (by kernel_rfl) ?_
     refine O.pure 3 [] [0, 2, 5, 6, 7, 17, 18] [] (fr' := [(0, .slice h0.1 a0.length h0.2), (2, .pointer (some ⟨p0_0, 0, none⟩)), (5, .pointer (some ⟨p1_0, 0, none⟩)), (6, .int .i64 s1.1), (7, .int .i64 (IntKind.wrap .i64 (s1.2.1 + 1))), (17, .int .i64 s1.2.1), (18, .bool (decide (s1.2.1 < 10)))]) (bx' := [⟨p1_0, [.slice g1.1 s1.2.2.length g1.2], 24⟩, ⟨p0_0, [.slice none 0 0], 24⟩]) (by kernel_rfl) ?_
     refine O.nil (by kernel_rfl) ?_
     exact J.conv2 [0, 2, 5, 6, 7] [1, 2] [0, 1] [] (by kernel_rfl) (by kernel_rfl) (by kernel_rfl) (by kernel_rfl) (by decide) (ih1 (s1.1, (IntKind.wrap .i64 (s1.2.1 + 1)), s1.2.2) g1 H)
    ·refine J.condF (x := .tmp 27) (t := (decide ((x6_2.length : Int) > 500))) (by kernel_rfl) (by kernel_rfl) hc13 ?_
     refine J.skip (by kernel_rfl) ?_
     refine J.seq (by kernel_rfl) ?_
     refine J.region (by kernel_rfl) ?_
     refine O.pure 3 [] [0, 2, 5, 6, 7, 17, 18] [] (fr' := [(0, .slice h0.1 a0.length h0.2), (2, .pointer (some ⟨p0_0, 0, none⟩)), (5, .pointer (some ⟨p1_0, 0, none⟩)), (6, .int .i64 (IntKind.wrap .i64 (s1.1 + 1))), (7, .int .i64 s1.2.1), (17, .int .i64 s1.2.1), (18, .bool (decide (s1.2.1 < 10)))]) (bx' := [⟨p1_0, [.slice g1.1 s1.2.2.length g1.2], 24⟩, ⟨p0_0, [.slice none 0 0], 24⟩]) (by kernel_rfl) ?_
     refine O.nil (by kernel_rfl) ?_
     refine J.seq (by kernel_rfl) ?_
     obtain ⟨x8_5, hx8_5, H⟩ := bindE H
     obtain ⟨hx8_5a, hx8_5⟩ := idxE hx8_5
     obtain ⟨y8_7, hy8_7, H⟩ := bindE H
     have hy8_7a := (appE hy8_7).1
     obtain ⟨x8_8, hx8_8, H⟩ := bindE H
     refine J.open (d := (Kd.slice (Kd.int .u8))) (h := h0) (i := s1.2.1) 2 rfl hx8_5 (Lay.slice _ _) (fun p8_5 hp8_5A => ?_)
     refine J.drawS (by kernel_rfl) [(0, some 31, .agg #[.slice g1.1 s1.2.2.length g1.2]), (1, some 32, .int .i64 (IntKind.wrap .i64 (s1.1 + 1))), (3, some 34, .slice h0.1 a0.length h0.2), (4, some 35, .int .i64 s1.2.1), (6, some 37, .slice p8_5.2.2.1 x8_5.length p8_5.2.2.2), (5, some 36, .pointer (some ⟨p8_5.1, p8_5.2.1 + s1.2.1.toNat * 1, none⟩))] ([0, 1, 3, 4, 6] ++ [5]) (by kernel_rfl) ?_
     refine D.mid (cs := [2]) [0, 1, 3, 4, 6] [5] [(0, 0), (2, 0)] [p1_0, 0, p8_5.1, p8_5.2.1 + s1.2.1.toNat * 1] (by kernel_rfl) (by kernel_rfl) (⟨QuAt.mk (v := .pointer (some ⟨p8_5.1, p8_5.2.1 + s1.2.1.toNat * 1, none⟩)) (some 36) (by kernel_rfl) (by kernel_rfl) (Qu.idx (t := 58) (x := .tmp 34) (y := .tmp 35) (c := h0.2) (kk := .i64) (sz := 1) (by kernel_rfl) (by kernel_rfl) (by kernel_rfl) (by kernel_rfl) hx8_5a (idx_lt hx8_5) hp8_5A), trivial⟩) (by kernel_rfl) ⟨?_, trivial⟩
     refine EvStep.mk (some 33) (new := fun p8_2 => []) ([0, 1, 3, 4, 6] ++ [5]) (by kernel_rfl) (Ev.lit (t := 27) (len := 0) (parts := #[]) (ps := []) (cs := []) (e := 5) (Kd.int .u8) ([] : List Int) (by kernel_rfl) (by kernel_rfl) (by kernel_rfl) (by kernel_rfl) (by kernel_rfl) (by decide) (fun w' hφ => (Els.nil _ _ _))) (fun p8_2 => by kernel_rfl) (fun p8_2 => ?_)
     refine D.mid (cs := [7]) [0, 1, 3, 4, 6] [5] [(0, 0), (2, 0)] [p1_0, 0, p8_5.1, p8_5.2.1 + s1.2.1.toNat * 1] (by kernel_rfl) (by kernel_rfl) (⟨QuAt.mk (v := .pointer (some ⟨p8_5.1, p8_5.2.1 + s1.2.1.toNat * 1, none⟩)) (some 36) (by kernel_rfl) (by kernel_rfl) (Qu.idx (t := 58) (x := .tmp 34) (y := .tmp 35) (c := h0.2) (kk := .i64) (sz := 1) (by kernel_rfl) (by kernel_rfl) (by kernel_rfl) (by kernel_rfl) hx8_5a (idx_lt hx8_5) hp8_5A), trivial⟩) (by kernel_rfl) ⟨?_, trivial⟩
     refine EvStep.mk (some 38) (new := fun p8_7 => []) ([0, 1, 3, 4] ++ [5]) (by kernel_rfl) (Ev.appSl (d := (Kd.int .u8)) (ys := x8_5) (A := p8_5.2.2.1) (c := p8_5.2.2.2) (x := .tmp 33) (y := .tmp 37) (t := 27) (bytes := 1) 0 (by kernel_rfl) (by kernel_rfl) (by kernel_rfl) rfl (by kernel_rfl) (by decide) hy8_7a) (fun p8_7 => by kernel_rfl) (fun p8_7 => ?_)
     refine D.mid (cs := [8]) [0, 1, 3, 4] [5] [(0, 0)] [p1_0, 0] (by kernel_rfl) (by kernel_rfl) (⟨QuAt.mk (v := .pointer (some ⟨p8_5.1, p8_5.2.1 + s1.2.1.toNat * 1, none⟩)) (some 36) (by kernel_rfl) (by kernel_rfl) (Qu.idx (t := 58) (x := .tmp 34) (y := .tmp 35) (c := h0.2) (kk := .i64) (sz := 1) (by kernel_rfl) (by kernel_rfl) (by kernel_rfl) (by kernel_rfl) hx8_5a (idx_lt hx8_5) hp8_5A), trivial⟩) (by kernel_rfl) ⟨?_, trivial⟩
     refine EvStep.mk (some 39) (new := fun p8_8 => [(9, some 30, .tuple #[.slice p8_8.1 x8_8.1.length p8_8.2, .int .i64 x8_8.2]), (10, some 40, .slice p8_8.1 x8_8.1.length p8_8.2), (11, some 41, .int .i64 x8_8.2), (12, some 8, .slice p8_8.1 x8_8.1.length p8_8.2), (13, some 9, .int .i64 x8_8.2)]) ([3, 4, 9, 10, 11, 12, 13] ++ [5]) (by kernel_rfl) (Ev.mono (fun w hS => hS.freezeH (h := p8_7) (xs := (([] : List Int) ++ x8_5))) (Ev.call0 (xs := [.tmp 31, .tmp 32, .tmp 38]) [3, 0] (by kernel_rfl) (by kernel_rfl) (fun w hS => ckpt_Save.con K (⟨s1.2.2⟩ : S24) (IntKind.wrap .i64 (s1.1 + 1)) (([] : List Int) ++ x8_5) g1 p8_7  _ _ w hS hx8_8))) (fun p8_8 => by kernel_rfl) (fun p8_8 => ?_)
     refine D.fin (fr' := [(0, .slice h0.1 a0.length h0.2), (2, .pointer (some ⟨p0_0, 0, none⟩)), (5, .pointer (some ⟨p1_0, 0, none⟩)), (6, .int .i64 (IntKind.wrap .i64 (s1.1 + 1))), (7, .int .i64 s1.2.1), (8, .slice p8_8.1 x8_8.1.length p8_8.2), (9, .int .i64 x8_8.2), (17, .int .i64 s1.2.1), (18, .bool (decide (s1.2.1 < 10)))]) [3, 4, 9, 10, 11, 12, 13] [5] [] [] [0, 2, 5, 6, 7, 8, 9, 17, 18] (by kernel_rfl) (by kernel_rfl) (⟨QuAt.mk (v := .pointer (some ⟨p8_5.1, p8_5.2.1 + s1.2.1.toNat * 1, none⟩)) (some 36) (by kernel_rfl) (by kernel_rfl) (Qu.idx (t := 58) (x := .tmp 34) (y := .tmp 35) (c := h0.2) (kk := .i64) (sz := 1) (by kernel_rfl) (by kernel_rfl) (by kernel_rfl) (by kernel_rfl) hx8_5a (idx_lt hx8_5) hp8_5A), trivial⟩) (by kernel_rfl) ?_
     refine J.seq (by kernel_rfl) ?_
     refine J.seq (by kernel_rfl) ?_
     refine J.region (by kernel_rfl) ?_
     refine O.pure 2 [] [0, 2, 5, 6, 7, 8, 17, 18, 43] [] (fr' := [(0, .slice h0.1 a0.length h0.2), (2, .pointer (some ⟨p0_0, 0, none⟩)), (5, .pointer (some ⟨p1_0, 0, none⟩)), (6, .int .i64 (IntKind.wrap .i64 (s1.1 + 1))), (7, .int .i64 s1.2.1), (8, .slice p8_8.1 x8_8.1.length p8_8.2), (17, .int .i64 s1.2.1), (18, .bool (decide (s1.2.1 < 10))), (43, .bool (x8_8.2 != 0))]) (bx' := [⟨p1_0, [.slice g1.1 s1.2.2.length g1.2], 24⟩, ⟨p0_0, [.slice none 0 0], 24⟩]) (by kernel_rfl) ?_
     refine O.nil (by kernel_rfl) ?_
     rcases condE H with ⟨hc14, H⟩ | ⟨hc14, H⟩
     ·refine J.condT (x := .tmp 43) (t := (x8_8.2 != 0)) (by kernel_rfl) (by kernel_rfl) hc14 ?_
      refine J.seq (by kernel_rfl) ?_
      refine J.region (by kernel_rfl) ?_
      refine O.pure 5 [(0, 0), (1, 0)] [2, 3, 4] [p1_0, 0, p0_0, 0] (fr' := [(2, .pointer (some ⟨p0_0, 0, none⟩)), (3, .int .i64 (IntKind.wrap .i64 (s1.1 + 1))), (4, .bool false)]) (bx' := [⟨p1_0, [.slice g1.1 s1.2.2.length g1.2], 24⟩, ⟨p0_0, [.slice g1.1 s1.2.2.length g1.2], 24⟩]) (by kernel_rfl) ?_
      refine O.nil (by kernel_rfl) ?_
      obtain rfl := Option.some.inj H
      exact J.doneS [(1, 0)] [p0_0, 0] [3] [] [] g1 (vs := [.agg #[.slice g1.1 s1.2.2.length g1.2], .int .i64 (IntKind.wrap .i64 (s1.1 + 1)), .bool false]) (by kernel_rfl) (by kernel_rfl) (by kernel_rfl) (by kernel_rfl) (by kernel_rfl) (by decide)
     ·refine J.condF (x := .tmp 43) (t := (x8_8.2 != 0)) (by kernel_rfl) (by kernel_rfl) hc14 ?_
      refine J.skip (by kernel_rfl) ?_
      refine J.seq (by kernel_rfl) ?_
      obtain ⟨x11_4, hx11_4, H⟩ := bindE H
      refine J.region (by kernel_rfl) ?_
      refine O.pure 4 [(0, 0)] [0, 2, 5, 6, 7, 8, 17, 18, 47, 48, 50] [p1_0, 0] (fr' := [(0, .slice h0.1 a0.length h0.2), (2, .pointer (some ⟨p0_0, 0, none⟩)), (5, .pointer (some ⟨p1_0, 0, none⟩)), (6, .int .i64 (IntKind.wrap .i64 (s1.1 + 1))), (7, .int .i64 s1.2.1), (8, .slice p8_8.1 x8_8.1.length p8_8.2), (17, .int .i64 s1.2.1), (18, .bool (decide (s1.2.1 < 10))), (47, .agg #[.slice g1.1 s1.2.2.length g1.2]), (48, .slice p8_8.1 x8_8.1.length p8_8.2), (50, .int .i64 (x8_8.1.length : Int))]) (bx' := [⟨p1_0, [.slice g1.1 s1.2.2.length g1.2], 24⟩, ⟨p0_0, [.slice none 0 0], 24⟩]) (by kernel_rfl) ?_
      refine O.e (some 51) (Ev.mono (fun w hS => hS.freezeH (h := p8_8) (xs := x8_8.1)) (Ev.call0 (xs := [.tmp 47, .tmp 48, .tmp 50]) [4, 0] (by kernel_rfl) (by kernel_rfl) (fun w hS => ckpt_Do.con K (⟨s1.2.2⟩ : S24) x8_8.1 (x8_8.1.length : Int) g1 p8_8  _ _ w hS hx11_4))) (by kernel_rfl) (fun p11_4 => ?_)
      refine O.pure 3 [] [0, 2, 5, 6, 7, 8, 17, 18, 52, 53] [] (fr' := [(0, .slice h0.1 a0.length h0.2), (2, .pointer (some ⟨p0_0, 0, none⟩)), (5, .pointer (some ⟨p1_0, 0, none⟩)), (6, .int .i64 (IntKind.wrap .i64 (s1.1 + 1))), (7, .int .i64 s1.2.1), (8, .slice p8_8.1 x8_8.1.length p8_8.2), (17, .int .i64 s1.2.1), (18, .bool (decide (s1.2.1 < 10))), (52, .agg #[.slice p11_4.1 x11_4.1.f0.length p11_4.2]), (53, .int .i64 x11_4.2)]) (bx' := [⟨p1_0, [.slice g1.1 s1.2.2.length g1.2], 24⟩, ⟨p0_0, [.slice none 0 0], 24⟩]) (by kernel_rfl) ?_
      refine O.e (some 10) (Ev.alloc (t := 24) (z := .agg #[.slice none 0 0]) (by kernel_rfl) (by kernel_rfl)) (by kernel_rfl) (fun p11_8 => ?_)
      refine O.pure 2 [(0, 0)] [0, 2, 5, 6, 7, 8, 10, 11, 17, 18] [p11_8, 0] (fr' := [(0, .slice h0.1 a0.length h0.2), (2, .pointer (some ⟨p0_0, 0, none⟩)), (5, .pointer (some ⟨p1_0, 0, none⟩)), (6, .int .i64 (IntKind.wrap .i64 (s1.1 + 1))), (7, .int .i64 s1.2.1), (8, .slice p8_8.1 x8_8.1.length p8_8.2), (10, .pointer (some ⟨p11_8, 0, none⟩)), (11, .int .i64 x11_4.2), (17, .int .i64 s1.2.1), (18, .bool (decide (s1.2.1 < 10)))]) (bx' := [⟨p11_8, [.slice p11_4.1 x11_4.1.f0.length p11_4.2], 24⟩, ⟨p1_0, [.slice g1.1 s1.2.2.length g1.2], 24⟩, ⟨p0_0, [.slice none 0 0], 24⟩]) (by kernel_rfl) ?_
      refine O.nil (by kernel_rfl) ?_
      refine J.seq (by kernel_rfl) ?_
      refine J.seq (by kernel_rfl) ?_
      refine J.region (by kernel_rfl) ?_
      refine O.pure 4 [] [0, 2, 5, 6, 7, 10, 17, 18, 57] [] (fr' := [(0, .slice h0.1 a0.length h0.2), (2, .pointer (some ⟨p0_0, 0, none⟩)), (5, .pointer (some ⟨p1_0, 0, none⟩)), (6, .int .i64 (IntKind.wrap .i64 (s1.1 + 1))), (7, .int .i64 s1.2.1), (10, .pointer (some ⟨p11_8, 0, none⟩)), (17, .int .i64 s1.2.1), (18, .bool (decide (s1.2.1 < 10))), (57, .bool (x11_4.2 != (x8_8.1.length : Int)))]) (bx' := [⟨p11_8, [.slice p11_4.1 x11_4.1.f0.length p11_4.2], 24⟩, ⟨p1_0, [.slice g1.1 s1.2.2.length g1.2], 24⟩, ⟨p0_0, [.slice none 0 0], 24⟩]) (by kernel_rfl) ?_
      refine O.nil (by kernel_rfl) ?_
      rcases condE H with ⟨hc15, H⟩ | ⟨hc15, H⟩
      ·refine J.condT (x := .tmp 57) (t := (x11_4.2 != (x8_8.1.length : Int))) (by kernel_rfl) (by kernel_rfl) hc15 ?_
       refine J.seq (by kernel_rfl) ?_
       refine J.region (by kernel_rfl) ?_
       refine O.pure 5 [(1, 0), (2, 0)] [2, 3, 4] [p1_0, 0, p0_0, 0] (fr' := [(2, .pointer (some ⟨p0_0, 0, none⟩)), (3, .int .i64 (IntKind.wrap .i64 (s1.1 + 1))), (4, .bool false)]) (bx' := [⟨p11_8, [.slice p11_4.1 x11_4.1.f0.length p11_4.2], 24⟩, ⟨p1_0, [.slice g1.1 s1.2.2.length g1.2], 24⟩, ⟨p0_0, [.slice g1.1 s1.2.2.length g1.2], 24⟩]) (by kernel_rfl) ?_
       refine O.nil (by kernel_rfl) ?_
       obtain rfl := Option.some.inj H
       exact J.doneS [(2, 0)] [p0_0, 0] [5] [] [] g1 (vs := [.agg #[.slice g1.1 s1.2.2.length g1.2], .int .i64 (IntKind.wrap .i64 (s1.1 + 1)), .bool false]) (by kernel_rfl) (by kernel_rfl) (by kernel_rfl) (by kernel_rfl) (by kernel_rfl) (by decide)
      ·refine J.condF (x := .tmp 57) (t := (x11_4.2 != (x8_8.1.length : Int))) (by kernel_rfl) (by kernel_rfl) hc15 ?_
       refine J.skip (by kernel_rfl) ?_
       refine J.region (by kernel_rfl) ?_
       refine O.pure 2 [(0, 0), (1, 0)] [0, 2, 5, 6, 7, 17, 18] [p11_8, 0, p1_0, 0] (fr' := [(0, .slice h0.1 a0.length h0.2), (2, .pointer (some ⟨p0_0, 0, none⟩)), (5, .pointer (some ⟨p1_0, 0, none⟩)), (6, .int .i64 (IntKind.wrap .i64 (s1.1 + 1))), (7, .int .i64 s1.2.1), (17, .int .i64 s1.2.1), (18, .bool (decide (s1.2.1 < 10)))]) (bx' := [⟨p11_8, [.slice p11_4.1 x11_4.1.f0.length p11_4.2], 24⟩, ⟨p1_0, [.slice p11_4.1 x11_4.1.f0.length p11_4.2], 24⟩, ⟨p0_0, [.slice none 0 0], 24⟩]) (by kernel_rfl) ?_
       refine O.nil (by kernel_rfl) ?_
       refine J.out ?_
       refine J.region (by kernel_rfl) ?_
       refine O.pure 3 [] [0, 2, 5, 6, 7, 17, 18] [] (fr' := [(0, .slice h0.1 a0.length h0.2), (2, .pointer (some ⟨p0_0, 0, none⟩)), (5, .pointer (some ⟨p1_0, 0, none⟩)), (6, .int .i64 (IntKind.wrap .i64 (s1.1 + 1))), (7, .int .i64 (IntKind.wrap .i64 (s1.2.1 + 1))), (17, .int .i64 s1.2.1), (18, .bool (decide (s1.2.1 < 10)))]) (bx' := [⟨p11_8, [.slice p11_4.1 x11_4.1.f0.length p11_4.2], 24⟩, ⟨p1_0, [.slice p11_4.1 x11_4.1.f0.length p11_4.2], 24⟩, ⟨p0_0, [.slice none 0 0], 24⟩]) (by kernel_rfl) ?_
       refine O.nil (by kernel_rfl) ?_
       exact J.conv2 [0, 2, 5, 6, 7] [0, 6] [1, 2] [] (by kernel_rfl) (by kernel_rfl) (by kernel_rfl) (by kernel_rfl) (by decide) (ih1 ((IntKind.wrap .i64 (s1.1 + 1)), (IntKind.wrap .i64 (s1.2.1 + 1)), x11_4.1.f0) p11_4 H)
   ·refine J.condF (x := .tmp 19) (t := (decide (s1.2.1 < 10))) (by kernel_rfl) (by kernel_rfl) hc12 ?_
    refine J.exit (id := 0) (by kernel_rfl) rfl ?_
    refine J.seq (by kernel_rfl) ?_
    refine J.region (by kernel_rfl) ?_
    refine O.pure 5 [(0, 0), (1, 0)] [2, 3, 4] [p1_0, 0, p0_0, 0] (fr' := [(2, .pointer (some ⟨p0_0, 0, none⟩)), (3, .int .i64 s1.1), (4, .bool true)]) (bx' := [⟨p1_0, [.slice g1.1 s1.2.2.length g1.2], 24⟩, ⟨p0_0, [.slice g1.1 s1.2.2.length g1.2], 24⟩]) (by kernel_rfl) ?_
    refine O.nil (by kernel_rfl) ?_
    obtain rfl := Option.some.inj H
    exact J.doneS [(1, 0)] [p0_0, 0] [0] [] [] g1 (vs := [.agg #[.slice g1.1 s1.2.2.length g1.2], .int .i64 s1.1, .bool true]) (by kernel_rfl) (by kernel_rfl) (by kernel_rfl) (by kernel_rfl) (by kernel_rfl) (by decide)
  ·refine J.region (by kernel_rfl) ?_
   refine O.pure 3 [] [0, 2, 5, 6, 7, 12, 14] [] (fr' := [(0, .slice h0.1 a0.length h0.2), (2, .pointer (some ⟨p0_0, 0, none⟩)), (5, .pointer (some ⟨p1_0, 0, none⟩)), (6, .int .i64 s1.1), (7, .int .i64 s1.2.1), (12, .int .i64 s1.2.1), (14, .int .i64 (a0.length : Int))]) (bx' := [⟨p1_0, [.slice g1.1 s1.2.2.length g1.2], 24⟩, ⟨p0_0, [.slice none 0 0], 24⟩]) (by kernel_rfl) ?_
   refine O.q (v := .bool false) (some 15) (Qu.eqv (u := .bool (decide (s1.2.1 < (a0.length : Int)))) (v := .bool false) (0, 0) [] (by kernel_rfl) (congrArg Value.bool hc11)) (by kernel_rfl) ?_
   refine O.pure 4 [] [0, 2, 5, 6, 7, 17, 18, 19] [] (fr' := [(0, .slice h0.1 a0.length h0.2), (2, .pointer (some ⟨p0_0, 0, none⟩)), (5, .pointer (some ⟨p1_0, 0, none⟩)), (6, .int .i64 s1.1), (7, .int .i64 s1.2.1), (17, undef), (18, undef), (19, .bool false)]) (bx' := [⟨p1_0, [.slice g1.1 s1.2.2.length g1.2], 24⟩, ⟨p0_0, [.slice none 0 0], 24⟩]) (by kernel_rfl) ?_
   refine O.nil (by kernel_rfl) ?_
   refine J.cond (o := .tmp 19) false (by kernel_rfl) (by kernel_rfl) ?_
   refine J.exit (id := 0) (by kernel_rfl) rfl ?_
   refine J.seq (by kernel_rfl) ?_
   refine J.region (by kernel_rfl) ?_
   refine O.pure 5 [(0, 0), (1, 0)] [2, 3, 4] [p1_0, 0, p0_0, 0] (fr' := [(2, .pointer (some ⟨p0_0, 0, none⟩)), (3, .int .i64 s1.1), (4, .bool true)]) (bx' := [⟨p1_0, [.slice g1.1 s1.2.2.length g1.2], 24⟩, ⟨p0_0, [.slice g1.1 s1.2.2.length g1.2], 24⟩]) (by kernel_rfl) ?_
   refine O.nil (by kernel_rfl) ?_
   obtain rfl := Option.some.inj H
   exact J.doneS [(1, 0)] [p0_0, 0] [0] [] [] g1 (vs := [.agg #[.slice g1.1 s1.2.2.length g1.2], .int .i64 s1.1, .bool true]) (by kernel_rfl) (by kernel_rfl) (by kernel_rfl) (by kernel_rfl) (by kernel_rfl) (by decide)
 ·refine J.nilF kd70 ?_
  exact J.conv2 [0, 2, 5, 6, 7] [0, 1] [0, 1] [] (by kernel_rfl) (by kernel_rfl) (by kernel_rfl) (by kernel_rfl) (by decide) h_
end Go.Proofs.Ytkcpbehgjbionaa.G
