/- Functions of the program as plain Lean, with their contracts (part 2); printed by a program of this session. -/
import Derived.Test.YtfgdceeceehmpaaG1
set_option linter.unusedVariables false
set_option linter.unusedSimpArgs false
namespace Go.Proofs.Ytfgdceeceehmpaa.G
open Go Go.RowKit Go.Hw
/-! ### haywain/haywainref13.Crash: function 37 -/
def haywainref13_Crash.l157 (K : Nat) (a1 : List Int) (s1 : (List S39) × Int) (x1_1 : List S39) : Nat → (Int × (List Int)) → Option (List Int)
  | 0, _ => none
  | k + 1, s157 => (idxO x1_1 s1.2).bind fun x8_3 => cond (decide (s157.1 < (x8_3.f1.length : Int))) ((idxO x1_1 s1.2).bind fun x10_3 => cond (decide (s157.1 < x10_3.f2)) ((idxO x1_1 s1.2).bind fun x11_4 => (idxO x11_4.f1 s157.1).bind fun x11_8 => (appO 1 s157.2 ([x11_8] : List Int)).bind fun y11_11 => haywainref13_Crash.l157 K a1 s1 x1_1 k ((IntKind.wrap .i64 (s157.1 + 1)), (s157.2 ++ ([x11_8] : List Int)))) (cond (decide (s1.2 < (a1.length : Int))) ((idxO x1_1 s1.2).bind fun x10_16 => (idxO a1 s1.2).bind fun x10_22 => cond (decide ((IntKind.wrap .i64 (s157.1 - x10_16.f2)) < x10_22)) ((idxO x1_1 s1.2).bind fun x11_4 => (idxO x11_4.f1 s157.1).bind fun x11_8 => (appO 1 s157.2 ([x11_8] : List Int)).bind fun y11_11 => haywainref13_Crash.l157 K a1 s1 x1_1 k ((IntKind.wrap .i64 (s157.1 + 1)), (s157.2 ++ ([x11_8] : List Int)))) (haywainref13_Crash.l157 K a1 s1 x1_1 k ((IntKind.wrap .i64 (s157.1 + 1)), s157.2))) (haywainref13_Crash.l157 K a1 s1 x1_1 k ((IntKind.wrap .i64 (s157.1 + 1)), s157.2)))) (some (s157.2))
def haywainref13_Crash.l1 (K : Nat) (a1 : List Int) (x1_1 : List S39) : Nat → ((List S39) × Int) → Option (List S39)
  | 0, _ => none
  | k + 1, s1 => cond (decide (s1.2 < (x1_1.length : Int))) (((idxO x1_1 s1.2).bind fun x6_2 => (haywainref13_Crash.l157 K a1 s1 x1_1 K (0, ([] : List Int)) : Option (List Int)).bind fun o143 : (List Int) => (appO 48 s1.1 ([(⟨x6_2.f0, o143, (o143.length : Int)⟩ : S39)] : List S39)).bind fun y13_3 => some ((s1.1 ++ ([(⟨x6_2.f0, o143, (o143.length : Int)⟩ : S39)] : List S39))) : Option (List S39)).bind fun o115 : (List S39) => haywainref13_Crash.l1 K a1 x1_1 k (o115, (IntKind.wrap .i64 (s1.2 + 1)))) (some (s1.1))
def haywainref13_Crash.f (K : Nat) (a0 : List S39) (a1 : List Int) : Option (List S39) := (haywainref13_Good.f K a0).bind fun x1_1 => haywainref13_Crash.l1 K a1 x1_1 K (([] : List S39), 0)
set_option maxRecDepth 100000 in
set_option maxHeartbeats 1000000 in
theorem haywainref13_Crash.con (K : Nat) (a0 : List S39) (a1 : List Int) (h0 : Hd) (h1 : Hd) (r : (List S39)) (X : Nat → Nat → Prop) (w : World) (hS : St X w [] [] [] [] [Rd kd39 h0.1 h0.2 a0, Rd (Kd.int .i64) h1.1 h1.2 a1] w) (H : haywainref13_Crash.f K a0 a1 = some r) :
    Cn Try.prog 37 [.slice h0.1 a0.length h0.2, .slice h1.1 a1.length h1.2] X w [] (fun i : Hd => .slice i.1 r.length i.2) (fun i => []) (fun i => [mkRow kd39 39 (.slice i.1 r.length i.2) r]) (fun i => []) := by
  refine Cn.of Try.func37 (by kernel_rfl) hS ?_
  unfold haywainref13_Crash.f at H
  refine J.seq (by kernel_rfl) ?_
  refine J.region (by kernel_rfl) ?_
  refine O.pure 1 [] [0, 1] [] (fr' := [(0, .slice h0.1 a0.length h0.2), (1, .slice h1.1 a1.length h1.2)]) (bx' := []) (by kernel_rfl) ?_
  refine O.nil (by kernel_rfl) ?_
  refine J.seq (by kernel_rfl) ?_
  obtain ⟨x1_1, hx1_1, H⟩ := bindE H
  refine J.region (by kernel_rfl) ?_
  refine O.pure 1 [] [0, 1, 9] [] (fr' := [(0, .slice h0.1 a0.length h0.2), (1, .slice h1.1 a1.length h1.2), (9, .slice h0.1 a0.length h0.2)]) (bx' := []) (by kernel_rfl) ?_
  refine O.e (some 10) (Ev.call0 (xs := [.tmp 9]) [0] (by kernel_rfl) (by kernel_rfl) (fun w hS => haywainref13_Good.con K a0 h0  _ _ w hS hx1_1)) (by kernel_rfl) (fun p1_1 => ?_)
  refine O.pure 1 [] [0, 1] [] (fr' := [(0, .slice p1_1.1 x1_1.length p1_1.2), (1, .slice h1.1 a1.length h1.2)]) (bx' := []) (by kernel_rfl) ?_
  refine O.nil (by kernel_rfl) ?_
  refine J.seq (by kernel_rfl) ?_
  refine J.region (by kernel_rfl) ?_
  refine O.pure 1 [] [0, 1, 5] [] (fr' := [(0, .slice p1_1.1 x1_1.length p1_1.2), (1, .slice h1.1 a1.length h1.2), (5, .slice none 0 0)]) (bx' := []) (by kernel_rfl) ?_
  refine O.nil (by kernel_rfl) ?_
  refine J.seq (by kernel_rfl) ?_
  refine J.seq (by kernel_rfl) ?_
  refine J.region (by kernel_rfl) ?_
  refine O.pure 1 [] [0, 1, 5, 6] [] (fr' := [(0, .slice p1_1.1 x1_1.length p1_1.2), (1, .slice h1.1 a1.length h1.2), (5, .slice none 0 0), (6, .int .i64 0)]) (bx' := []) (by kernel_rfl) ?_
  refine O.nil (by kernel_rfl) ?_
  refine J.block (id := 0) (by kernel_rfl) ?_
  refine J.loopI (σ := (List S39) × Int) (γ := Hd) (f := fun m_ s_ => haywainref13_Crash.l1 K a1 x1_1 m_ s_) (fun s1 g1 => [(0, .slice p1_1.1 x1_1.length p1_1.2), (1, .slice h1.1 a1.length h1.2), (5, .slice g1.1 s1.1.length g1.2), (6, .int .i64 s1.2)]) (fun s1 g1 => St X w [] [] [mkRow kd39 39 (.slice g1.1 s1.1.length g1.2) s1.1] [] [Rd kd39 p1_1.1 p1_1.2 x1_1, Rd kd39 h0.1 h0.2 a0, Rd (Kd.int .i64) h1.1 h1.2 a1]) K (([] : List S39), 0) (none, 0) (by kernel_rfl) H (fun _ => rfl) (fun m_ s1 H ih1 g1 => ?_) (fun h_ => ?_)
  · unfold haywainref13_Crash.l1 at H
    refine J.seq (by kernel_rfl) ?_
    refine J.seq (by kernel_rfl) ?_
    refine J.region (by kernel_rfl) ?_
    refine O.pure 4 [] [0, 1, 5, 6, 14] [] (fr' := [(0, .slice p1_1.1 x1_1.length p1_1.2), (1, .slice h1.1 a1.length h1.2), (5, .slice g1.1 s1.1.length g1.2), (6, .int .i64 s1.2), (14, .bool (decide (s1.2 < (x1_1.length : Int))))]) (bx' := []) (by kernel_rfl) ?_
    refine O.nil (by kernel_rfl) ?_
    rcases condE H with ⟨hc114, H⟩ | ⟨hc114, H⟩
    · refine J.condT (x := .tmp 14) (t := (decide (s1.2 < (x1_1.length : Int)))) (by kernel_rfl) (by kernel_rfl) hc114 ?_
      refine J.skip (by kernel_rfl) ?_
      refine J.seq (by kernel_rfl) ?_
      refine J.join (α := (List S39)) (γ := Hd) (fun o115 q115 => [(0, .slice p1_1.1 x1_1.length p1_1.2), (1, .slice h1.1 a1.length h1.2), (5, .slice q115.1 o115.length q115.2), (6, .int .i64 s1.2)]) (fun o115 q115 => St X w [] [] [mkRow kd39 39 (.slice q115.1 o115.length q115.2) o115] [] [Rd kd39 p1_1.1 p1_1.2 x1_1, Rd kd39 h0.1 h0.2 a0, Rd (Kd.int .i64) h1.1 h1.2 a1]) H (fun o115 q115 H => ?_) (fun o115 H hj115 => ?_)
      · refine J.region (by kernel_rfl) ?_
        refine O.pure 3 [] [0, 1, 5, 6] [] (fr' := [(0, .slice p1_1.1 x1_1.length p1_1.2), (1, .slice h1.1 a1.length h1.2), (5, .slice q115.1 o115.length q115.2), (6, .int .i64 (IntKind.wrap .i64 (s1.2 + 1)))]) (bx' := []) (by kernel_rfl) ?_
        refine O.nil (by kernel_rfl) ?_
        exact J.conv2 [0, 1, 5, 6] [0, 1, 2] [] [0] (by kernel_rfl) (by kernel_rfl) (by kernel_rfl) (by kernel_rfl) (by decide) (ih1 (o115, (IntKind.wrap .i64 (s1.2 + 1))) q115 H)
      · refine J.block (id := 1) (by kernel_rfl) ?_
        refine J.seq (by kernel_rfl) ?_
        obtain ⟨x6_2, hx6_2, H⟩ := bindE H
        obtain ⟨hx6_2a, hx6_2⟩ := idxE hx6_2
        refine J.region (by kernel_rfl) ?_
        refine O.pure 2 [] [0, 1, 5, 6, 17, 18] [] (fr' := [(0, .slice p1_1.1 x1_1.length p1_1.2), (1, .slice h1.1 a1.length h1.2), (5, .slice g1.1 s1.1.length g1.2), (6, .int .i64 s1.2), (17, .slice p1_1.1 x1_1.length p1_1.2), (18, .int .i64 s1.2)]) (bx' := []) (by kernel_rfl) ?_
        refine O.open (d := kd39) (h := p1_1) (i := s1.2) 0 rfl hx6_2 (op39 _) (fun p6_2 hp6_2A => ?_)
        refine O.q (v := .pointer (some ⟨p6_2.1, p6_2.2.1 + s1.2.toNat * 3, none⟩)) (some 19) (Qu.idx (t := 27) (x := .tmp 17) (y := .tmp 18) (c := p1_1.2) (kk := .i64) (sz := 3) (by kernel_rfl) (by kernel_rfl) (by kernel_rfl) (by kernel_rfl) hx6_2a (idx_lt hx6_2) hp6_2A) (by kernel_rfl) ?_
        refine O.pure 3 [(0, 0)] [0, 1, 5, 6, 22] [p6_2.1, p6_2.2.1 + s1.2.toNat * 3] (fr' := [(0, .slice p1_1.1 x1_1.length p1_1.2), (1, .slice h1.1 a1.length h1.2), (5, .slice g1.1 s1.1.length g1.2), (6, .int .i64 s1.2), (22, .agg #[.string x6_2.f0, .slice none 0 0, .int .i64 0])]) (bx' := []) (by kernel_rfl) ?_
        refine O.e (some 7) (Ev.alloc (t := 39) (z := .agg #[.string (⟨#[]⟩ : ByteArray), .slice none 0 0, .int .i64 0]) (by kernel_rfl) (by kernel_rfl)) (by kernel_rfl) (fun p6_6 => ?_)
        refine O.pure 1 [(0, 0)] [0, 1, 5, 6, 7] [p6_6, 0] (fr' := [(0, .slice p1_1.1 x1_1.length p1_1.2), (1, .slice h1.1 a1.length h1.2), (5, .slice g1.1 s1.1.length g1.2), (6, .int .i64 s1.2), (7, .pointer (some ⟨p6_6, 0, none⟩))]) (bx' := [⟨p6_6, [.string x6_2.f0, .slice none 0 0, .int .i64 0], 39⟩]) (by kernel_rfl) ?_
        refine O.nil (by kernel_rfl) ?_
        refine J.seq (by kernel_rfl) ?_
        refine J.seq (by kernel_rfl) ?_
        refine J.region (by kernel_rfl) ?_
        refine O.pure 1 [] [0, 1, 5, 6, 7, 8] [] (fr' := [(0, .slice p1_1.1 x1_1.length p1_1.2), (1, .slice h1.1 a1.length h1.2), (5, .slice g1.1 s1.1.length g1.2), (6, .int .i64 s1.2), (7, .pointer (some ⟨p6_6, 0, none⟩)), (8, .int .i64 0)]) (bx' := [⟨p6_6, [.string x6_2.f0, .slice none 0 0, .int .i64 0], 39⟩]) (by kernel_rfl) ?_
        refine O.nil (by kernel_rfl) ?_
        refine J.join (α := (List Int)) (γ := Hd) (fun o143 q143 => [(0, .slice p1_1.1 x1_1.length p1_1.2), (1, .slice h1.1 a1.length h1.2), (5, .slice g1.1 s1.1.length g1.2), (6, .int .i64 s1.2), (7, .pointer (some ⟨p6_6, 0, none⟩))]) (fun o143 q143 => St X w [] [⟨p6_6, [.string x6_2.f0, .slice q143.1 o143.length q143.2, .int .i64 0], 39⟩] [mkRow (Kd.int .u8) 5 (.slice q143.1 o143.length q143.2) o143, mkRow kd39 39 (.slice g1.1 s1.1.length g1.2) s1.1] [] [Rd kd39 p1_1.1 p1_1.2 x1_1, Rd kd39 h0.1 h0.2 a0, Rd (Kd.int .i64) h1.1 h1.2 a1]) H (fun o143 q143 H => ?_) (fun o143 H hj143 => ?_)
        · refine J.seq (by kernel_rfl) ?_
          refine J.region (by kernel_rfl) ?_
          refine O.pure 5 [(0, 1), (0, 2)] [0, 1, 5, 6, 7] [p6_6, 1, p6_6, 2] (fr' := [(0, .slice p1_1.1 x1_1.length p1_1.2), (1, .slice h1.1 a1.length h1.2), (5, .slice g1.1 s1.1.length g1.2), (6, .int .i64 s1.2), (7, .pointer (some ⟨p6_6, 0, none⟩))]) (bx' := [⟨p6_6, [.string x6_2.f0, .slice q143.1 o143.length q143.2, .int .i64 (o143.length : Int)], 39⟩]) (by kernel_rfl) ?_
          refine O.nil (by kernel_rfl) ?_
          obtain ⟨y13_3, hy13_3, H⟩ := bindE H
          have hy13_3a := (appE hy13_3).1
          refine J.region (by kernel_rfl) ?_
          refine O.pure 2 [(0, 0)] [0, 1, 5, 6, 77, 78] [p6_6, 0] (fr' := [(0, .slice p1_1.1 x1_1.length p1_1.2), (1, .slice h1.1 a1.length h1.2), (5, .slice g1.1 s1.1.length g1.2), (6, .int .i64 s1.2), (77, .slice g1.1 s1.1.length g1.2), (78, .agg #[.string x6_2.f0, .slice q143.1 o143.length q143.2, .int .i64 (o143.length : Int)])]) (bx' := [⟨p6_6, [.string x6_2.f0, .slice q143.1 o143.length q143.2, .int .i64 (o143.length : Int)], 39⟩]) (by kernel_rfl) ?_
          refine O.e (some 79) (Ev.mono (fun w hS => hS.freezeH (h := q143) (xs := o143)) (Ev.lit (t := 27) (len := 1) (parts := #[(0, .tmp 78)]) (ps := [(0, .agg #[.string x6_2.f0, .slice q143.1 o143.length q143.2, .int .i64 (o143.length : Int)])]) (cs := [.string x6_2.f0, .slice q143.1 o143.length q143.2, .int .i64 (o143.length : Int)]) (e := 39) kd39 ([(⟨x6_2.f0, o143, (o143.length : Int)⟩ : S39)] : List S39) (by kernel_rfl) (by kernel_rfl) (by kernel_rfl) (by kernel_rfl) (by kernel_rfl) (by decide) (fun w' hφ => (Els.cons (c := [.string x6_2.f0, .slice q143.1 o143.length q143.2, .int .i64 (o143.length : Int)]) (⟨q143, rfl, hφ _ (List.mem_of_getElem? (i := 0) rfl)⟩) (Els.nil _ _ _))))) (by kernel_rfl) (fun p13_2 => ?_)
          refine O.e (some 80) (Ev.appLit (x := .tmp 77) (y := .tmp 79) (t := 27) (bytes := 48) (by kernel_rfl) (by kernel_rfl) (by kernel_rfl) (by kernel_rfl) (by kernel_rfl) (by decide) hy13_3a) (by kernel_rfl) (fun p13_3 => ?_)
          refine O.pure 1 [] [0, 1, 5, 6] [] (fr' := [(0, .slice p1_1.1 x1_1.length p1_1.2), (1, .slice h1.1 a1.length h1.2), (5, .slice p13_3.1 (s1.1 ++ ([(⟨x6_2.f0, o143, (o143.length : Int)⟩ : S39)] : List S39)).length p13_3.2), (6, .int .i64 s1.2)]) (bx' := [⟨p6_6, [.string x6_2.f0, .slice q143.1 o143.length q143.2, .int .i64 (o143.length : Int)], 39⟩]) (by kernel_rfl) ?_
          refine O.nil (by kernel_rfl) ?_
          refine J.out ?_
          obtain rfl := Option.some.inj H
          exact J.conv2 [0, 1, 5, 6] [1, 2, 3] [] [0] (by kernel_rfl) (by kernel_rfl) (by kernel_rfl) (by kernel_rfl) (by decide) (hj115 p13_3)
        · refine J.block (id := 2) (by kernel_rfl) ?_
          refine J.loopI (σ := Int × (List Int)) (γ := Hd) (f := fun m_ s_ => haywainref13_Crash.l157 K a1 s1 x1_1 m_ s_) (fun s157 g157 => [(0, .slice p1_1.1 x1_1.length p1_1.2), (1, .slice h1.1 a1.length h1.2), (5, .slice g1.1 s1.1.length g1.2), (6, .int .i64 s1.2), (7, .pointer (some ⟨p6_6, 0, none⟩)), (8, .int .i64 s157.1)]) (fun s157 g157 => St X w [] [⟨p6_6, [.string x6_2.f0, .slice g157.1 s157.2.length g157.2, .int .i64 0], 39⟩] [mkRow (Kd.int .u8) 5 (.slice g157.1 s157.2.length g157.2) s157.2, mkRow kd39 39 (.slice g1.1 s1.1.length g1.2) s1.1] [] [Rd kd39 p1_1.1 p1_1.2 x1_1, Rd kd39 h0.1 h0.2 a0, Rd (Kd.int .i64) h1.1 h1.2 a1]) K (0, ([] : List Int)) (none, 0) (by kernel_rfl) H (fun _ => rfl) (fun m_ s157 H ih157 g157 => ?_) (fun h_ => ?_)
          · unfold haywainref13_Crash.l157 at H
            refine J.seq (by kernel_rfl) ?_
            refine J.seq (by kernel_rfl) ?_
            obtain ⟨x8_3, hx8_3, H⟩ := bindE H
            obtain ⟨hx8_3a, hx8_3⟩ := idxE hx8_3
            refine J.region (by kernel_rfl) ?_
            refine O.pure 3 [] [0, 1, 5, 6, 7, 8, 23, 24, 25] [] (fr' := [(0, .slice p1_1.1 x1_1.length p1_1.2), (1, .slice h1.1 a1.length h1.2), (5, .slice g1.1 s1.1.length g1.2), (6, .int .i64 s1.2), (7, .pointer (some ⟨p6_6, 0, none⟩)), (8, .int .i64 s157.1), (23, .int .i64 s157.1), (24, .slice p1_1.1 x1_1.length p1_1.2), (25, .int .i64 s1.2)]) (bx' := [⟨p6_6, [.string x6_2.f0, .slice g157.1 s157.2.length g157.2, .int .i64 0], 39⟩]) (by kernel_rfl) ?_
            refine O.open (d := kd39) (h := p1_1) (i := s1.2) 0 rfl hx8_3 (op39 _) (fun p8_3 hp8_3A => ?_)
            refine O.q (v := .pointer (some ⟨p8_3.1, p8_3.2.1 + s1.2.toNat * 3, none⟩)) (some 26) (Qu.idx (t := 27) (x := .tmp 24) (y := .tmp 25) (c := p1_1.2) (kk := .i64) (sz := 3) (by kernel_rfl) (by kernel_rfl) (by kernel_rfl) (by kernel_rfl) hx8_3a (idx_lt hx8_3) hp8_3A) (by kernel_rfl) ?_
            refine O.pure 4 [(1, 1)] [0, 1, 5, 6, 7, 8, 30] [p8_3.1, p8_3.2.1 + s1.2.toNat * 3 + 1] (fr' := [(0, .slice p1_1.1 x1_1.length p1_1.2), (1, .slice h1.1 a1.length h1.2), (5, .slice g1.1 s1.1.length g1.2), (6, .int .i64 s1.2), (7, .pointer (some ⟨p6_6, 0, none⟩)), (8, .int .i64 s157.1), (30, .bool (decide (s157.1 < (x8_3.f1.length : Int))))]) (bx' := [⟨p6_6, [.string x6_2.f0, .slice g157.1 s157.2.length g157.2, .int .i64 0], 39⟩]) (by kernel_rfl) ?_
            refine O.nil (by kernel_rfl) ?_
            rcases condE H with ⟨hc166, H⟩ | ⟨hc166, H⟩
            · refine J.condT (x := .tmp 30) (t := (decide (s157.1 < (x8_3.f1.length : Int)))) (by kernel_rfl) (by kernel_rfl) hc166 ?_
              refine J.skip (by kernel_rfl) ?_
              refine J.seq (by kernel_rfl) ?_
              refine J.block (id := 3) (by kernel_rfl) ?_
              refine J.seq (by kernel_rfl) ?_
              obtain ⟨x10_3, hx10_3, H⟩ := bindE H
              obtain ⟨hx10_3a, hx10_3⟩ := idxE hx10_3
              rcases condE H with ⟨hc167, H⟩ | ⟨hc167, H⟩
              · refine J.open (d := kd39) (h := p1_1) (i := s1.2) 1 rfl hx10_3 (op39 _) (fun p10_3 hp10_3A => ?_)
                refine J.drawS (by kernel_rfl) [(0, some 33, .int .i64 s157.1), (1, some 34, .slice p1_1.1 x1_1.length p1_1.2), (2, some 35, .int .i64 s1.2), (4, some 37, .pointer (some ⟨p10_3.1, p10_3.2.1 + s1.2.toNat * 3 + 2, none⟩)), (5, some 38, .int .i64 x10_3.f2), (7, some 40, .bool true), (8, some 41, undef), (9, some 42, undef), (10, some 43, undef), (11, some 44, undef), (12, some 45, undef), (13, some 46, undef), (14, some 47, undef), (15, some 48, undef), (16, some 49, undef), (17, some 50, undef), (18, some 51, undef), (19, some 52, undef), (20, some 53, undef), (21, some 54, undef), (22, some 55, undef), (23, some 56, undef), (24, some 57, undef), (25, some 58, undef), (26, some 59, .bool true), (3, some 36, .pointer (some ⟨p10_3.1, p10_3.2.1 + s1.2.toNat * 3, none⟩)), (6, some 39, .bool true)] ([0, 1, 2, 4, 5, 7, 8, 9, 10, 11, 12, 13, 14, 15, 16, 17, 18, 19, 20, 21, 22, 23, 24, 25, 26] ++ [3, 6]) (by kernel_rfl) ?_
                refine D.fin (fr' := [(0, .slice p1_1.1 x1_1.length p1_1.2), (1, .slice h1.1 a1.length h1.2), (5, .slice g1.1 s1.1.length g1.2), (6, .int .i64 s1.2), (7, .pointer (some ⟨p6_6, 0, none⟩)), (8, .int .i64 s157.1), (41, undef), (42, undef), (43, undef), (44, undef), (45, undef), (46, undef), (47, undef), (48, undef), (49, undef), (50, undef), (51, undef), (52, undef), (53, undef), (54, undef), (55, undef), (56, undef), (57, undef), (58, undef), (59, .bool true)]) [0, 1, 2, 4, 5, 7, 8, 9, 10, 11, 12, 13, 14, 15, 16, 17, 18, 19, 20, 21, 22, 23, 24, 25, 26] [3, 6] [(1, 2)] [p10_3.1, p10_3.2.1 + s1.2.toNat * 3 + 2] [0, 1, 5, 6, 7, 8, 41, 42, 43, 44, 45, 46, 47, 48, 49, 50, 51, 52, 53, 54, 55, 56, 57, 58, 59] (by kernel_rfl) (by kernel_rfl) (⟨QuAt.mk (v := .pointer (some ⟨p10_3.1, p10_3.2.1 + s1.2.toNat * 3, none⟩)) (some 36) (by kernel_rfl) (by kernel_rfl) (Qu.idx (t := 27) (x := .tmp 34) (y := .tmp 35) (c := p1_1.2) (kk := .i64) (sz := 3) (by kernel_rfl) (by kernel_rfl) (by kernel_rfl) (by kernel_rfl) hx10_3a (idx_lt hx10_3) hp10_3A), QuAt.mk (v := .bool true) (some 39) (by kernel_rfl) (by kernel_rfl) (Qu.eqv (u := .bool (decide (s157.1 < x10_3.f2))) (v := .bool true) (0, 0) [] (by kernel_rfl) (congrArg Value.bool hc167)), trivial⟩) (by kernel_rfl) ?_
                refine J.cond (o := .tmp 59) true (by kernel_rfl) (by kernel_rfl) ?_
                obtain ⟨x11_4, hx11_4, H⟩ := bindE H
                obtain ⟨hx11_4a, hx11_4⟩ := idxE hx11_4
                obtain ⟨x11_8, hx11_8, H⟩ := bindE H
                obtain ⟨hx11_8a, hx11_8⟩ := idxE hx11_8
                obtain ⟨y11_11, hy11_11, H⟩ := bindE H
                have hy11_11a := (appE hy11_11).1
                refine J.open (d := kd39) (h := p1_1) (i := s1.2) 2 rfl hx11_4 (op39 _) (fun p11_4 hp11_4A => ?_)
                refine J.open (d := (Kd.int .u8)) (h := p11_4.2.2) (i := s157.1) 0 rfl hx11_8 (Lay.int _ _) (fun p11_8 hp11_8A => ?_)
                refine J.drawS (by kernel_rfl) [(0, some 60, .pointer (some ⟨p6_6, 1, none⟩)), (1, some 61, .slice g157.1 s157.2.length g157.2), (2, some 62, .slice p1_1.1 x1_1.length p1_1.2), (3, some 63, .int .i64 s1.2), (5, some 65, .pointer (some ⟨p11_4.1, p11_4.2.1 + s1.2.toNat * 3 + 1, none⟩)), (6, some 66, .slice p11_4.2.2.1 x11_4.f1.length p11_4.2.2.2), (7, some 67, .int .i64 s157.1), (9, some 69, .int .u8 x11_8), (4, some 64, .pointer (some ⟨p11_4.1, p11_4.2.1 + s1.2.toNat * 3, none⟩)), (8, some 68, .pointer (some ⟨p11_8.1, p11_8.2.1 + s157.1.toNat * 1, none⟩))] ([0, 1, 2, 3, 5, 6, 7, 9] ++ [4, 8]) (by kernel_rfl) ?_
                refine D.mid (cs := [10]) [0, 1, 2, 3, 5, 6, 7, 9] [4, 8] [(0, 1), (2, 1), (1, 0)] [p6_6, 1, p11_4.1, p11_4.2.1 + s1.2.toNat * 3 + 1, p11_8.1, p11_8.2.1 + s157.1.toNat * 1] (by kernel_rfl) (by kernel_rfl) (⟨QuAt.mk (v := .pointer (some ⟨p11_4.1, p11_4.2.1 + s1.2.toNat * 3, none⟩)) (some 64) (by kernel_rfl) (by kernel_rfl) (Qu.idx (t := 27) (x := .tmp 62) (y := .tmp 63) (c := p1_1.2) (kk := .i64) (sz := 3) (by kernel_rfl) (by kernel_rfl) (by kernel_rfl) (by kernel_rfl) hx11_4a (idx_lt hx11_4) hp11_4A), QuAt.mk (v := .pointer (some ⟨p11_8.1, p11_8.2.1 + s157.1.toNat * 1, none⟩)) (some 68) (by kernel_rfl) (by kernel_rfl) (Qu.idx (t := 30) (x := .tmp 66) (y := .tmp 67) (c := p11_4.2.2.2) (kk := .i64) (sz := 1) (by kernel_rfl) (by kernel_rfl) (by kernel_rfl) (by kernel_rfl) hx11_8a (idx_lt hx11_8) hp11_8A), trivial⟩) (by kernel_rfl) ⟨?_, trivial⟩
                refine EvStep.mk (some 70) (new := fun p11_10 => []) ([0, 1, 2, 3, 5, 6, 7] ++ [4, 8]) (by kernel_rfl) (Ev.lit (t := 30) (len := 1) (parts := #[(0, .tmp 69)]) (ps := [(0, .int .u8 x11_8)]) (cs := [.int .u8 x11_8]) (e := 5) (Kd.int .u8) ([x11_8] : List Int) (by kernel_rfl) (by kernel_rfl) (by kernel_rfl) (by kernel_rfl) (by kernel_rfl) (by decide) (fun w' hφ => (Els.cons (c := [.int .u8 x11_8]) (rfl) (Els.nil _ _ _)))) (fun p11_10 => by kernel_rfl) (fun p11_10 => ?_)
                refine D.mid (cs := [11]) [0, 1, 2, 3, 5, 6, 7] [4, 8] [(0, 1), (2, 1)] [p6_6, 1, p11_4.1, p11_4.2.1 + s1.2.toNat * 3 + 1] (by kernel_rfl) (by kernel_rfl) (⟨QuAt.mk (v := .pointer (some ⟨p11_4.1, p11_4.2.1 + s1.2.toNat * 3, none⟩)) (some 64) (by kernel_rfl) (by kernel_rfl) (Qu.idx (t := 27) (x := .tmp 62) (y := .tmp 63) (c := p1_1.2) (kk := .i64) (sz := 3) (by kernel_rfl) (by kernel_rfl) (by kernel_rfl) (by kernel_rfl) hx11_4a (idx_lt hx11_4) hp11_4A), QuAt.mk (v := .pointer (some ⟨p11_8.1, p11_8.2.1 + s157.1.toNat * 1, none⟩)) (some 68) (by kernel_rfl) (by kernel_rfl) (Qu.idx (t := 30) (x := .tmp 66) (y := .tmp 67) (c := p11_4.2.2.2) (kk := .i64) (sz := 1) (by kernel_rfl) (by kernel_rfl) (by kernel_rfl) (by kernel_rfl) hx11_8a (idx_lt hx11_8) hp11_8A), trivial⟩) (by kernel_rfl) ⟨?_, trivial⟩
                refine EvStep.mk (some 71) (new := fun p11_11 => [(12, some 72, .pointer (some ⟨p6_6, 1, none⟩))]) ([0, 2, 3, 5, 6, 7, 12] ++ [4, 8]) (by kernel_rfl) (Ev.appLit (x := .tmp 61) (y := .tmp 70) (t := 30) (bytes := 1) (by kernel_rfl) (by kernel_rfl) (by kernel_rfl) (by kernel_rfl) (by kernel_rfl) (by decide) hy11_11a) (fun p11_11 => by kernel_rfl) (fun p11_11 => ?_)
                refine D.mid (cs := [13]) [0, 2, 3, 5, 6, 7, 12] [4, 8] [(2, 1)] [p11_4.1, p11_4.2.1 + s1.2.toNat * 3 + 1] (by kernel_rfl) (by kernel_rfl) (⟨QuAt.mk (v := .pointer (some ⟨p11_4.1, p11_4.2.1 + s1.2.toNat * 3, none⟩)) (some 64) (by kernel_rfl) (by kernel_rfl) (Qu.idx (t := 27) (x := .tmp 62) (y := .tmp 63) (c := p1_1.2) (kk := .i64) (sz := 3) (by kernel_rfl) (by kernel_rfl) (by kernel_rfl) (by kernel_rfl) hx11_4a (idx_lt hx11_4) hp11_4A), QuAt.mk (v := .pointer (some ⟨p11_8.1, p11_8.2.1 + s157.1.toNat * 1, none⟩)) (some 68) (by kernel_rfl) (by kernel_rfl) (Qu.idx (t := 30) (x := .tmp 66) (y := .tmp 67) (c := p11_4.2.2.2) (kk := .i64) (sz := 1) (by kernel_rfl) (by kernel_rfl) (by kernel_rfl) (by kernel_rfl) hx11_8a (idx_lt hx11_8) hp11_8A), trivial⟩) (by kernel_rfl) ⟨?_, trivial⟩
                refine EvStep.mk none (new := fun _ => []) ([] ++ []) (by kernel_rfl) (Ev.store (kk := 0) (cs := [.string x6_2.f0, .slice p11_11.1 (s157.2 ++ ([x11_8] : List Int)).length p11_11.2, .int .i64 0]) (0, 1) [p6_6, 1] (by kernel_rfl)) (fun _ => by kernel_rfl) (fun _ => ?_)
                refine D.fin (fr' := [(0, .slice p1_1.1 x1_1.length p1_1.2), (1, .slice h1.1 a1.length h1.2), (5, .slice g1.1 s1.1.length g1.2), (6, .int .i64 s1.2), (7, .pointer (some ⟨p6_6, 0, none⟩)), (8, .int .i64 s157.1), (41, undef), (42, undef), (43, undef), (44, undef), (45, undef), (46, undef), (47, undef), (48, undef), (49, undef), (50, undef), (51, undef), (52, undef), (53, undef), (54, undef), (55, undef), (56, undef), (57, undef), (58, undef)]) [] [] [] [] [0, 1, 5, 6, 7, 8, 41, 42, 43, 44, 45, 46, 47, 48, 49, 50, 51, 52, 53, 54, 55, 56, 57, 58] (by kernel_rfl) (by kernel_rfl) trivial (by kernel_rfl) ?_
                refine J.out ?_
                refine J.region (by kernel_rfl) ?_
                refine O.pure 3 [] [0, 1, 5, 6, 7, 8, 41, 42, 43, 44, 45, 46, 47, 48, 49, 50, 51, 52, 53, 54, 55, 56, 57, 58] [] (fr' := [(0, .slice p1_1.1 x1_1.length p1_1.2), (1, .slice h1.1 a1.length h1.2), (5, .slice g1.1 s1.1.length g1.2), (6, .int .i64 s1.2), (7, .pointer (some ⟨p6_6, 0, none⟩)), (8, .int .i64 (IntKind.wrap .i64 (s157.1 + 1))), (41, undef), (42, undef), (43, undef), (44, undef), (45, undef), (46, undef), (47, undef), (48, undef), (49, undef), (50, undef), (51, undef), (52, undef), (53, undef), (54, undef), (55, undef), (56, undef), (57, undef), (58, undef)]) (bx' := [⟨p6_6, [.string x6_2.f0, .slice p11_11.1 (s157.2 ++ ([x11_8] : List Int)).length p11_11.2, .int .i64 0], 39⟩]) (by kernel_rfl) ?_
                refine O.nil (by kernel_rfl) ?_
                exact J.conv2 [0, 1, 5, 6, 7, 8] [3, 4, 5] [0] [0, 1] (by kernel_rfl) (by kernel_rfl) (by kernel_rfl) (by kernel_rfl) (by decide) (ih157 ((IntKind.wrap .i64 (s157.1 + 1)), (s157.2 ++ ([x11_8] : List Int))) p11_11 H)
              · rcases condE H with ⟨hc168, H⟩ | ⟨hc168, H⟩
                · obtain ⟨x10_16, hx10_16, H⟩ := bindE H
                  obtain ⟨hx10_16a, hx10_16⟩ := idxE hx10_16
                  obtain ⟨x10_22, hx10_22, H⟩ := bindE H
                  obtain ⟨hx10_22a, hx10_22⟩ := idxE hx10_22
                  refine J.open (d := kd39) (h := p1_1) (i := s1.2) 1 rfl hx10_3 (op39 _) (fun p10_3 hp10_3A => ?_)
                  refine J.open (d := kd39) (h := p1_1) (i := s1.2) 2 rfl hx10_16 (op39 _) (fun p10_16 hp10_16A => ?_)
                  refine J.open (d := (Kd.int .i64)) (h := h1) (i := s1.2) 5 rfl hx10_22 (Lay.int _ _) (fun p10_22 hp10_22A => ?_)
                  refine J.drawS (by kernel_rfl) [(0, some 33, .int .i64 s157.1), (1, some 34, .slice p1_1.1 x1_1.length p1_1.2), (2, some 35, .int .i64 s1.2), (4, some 37, .pointer (some ⟨p10_3.1, p10_3.2.1 + s1.2.toNat * 3 + 2, none⟩)), (5, some 38, .int .i64 x10_3.f2), (7, some 40, .bool false), (8, some 41, .int .i64 s1.2), (9, some 42, .slice h1.1 a1.length h1.2), (10, some 43, .int .i64 (a1.length : Int)), (12, some 45, .bool true), (13, some 46, .int .i64 s157.1), (14, some 47, .slice p1_1.1 x1_1.length p1_1.2), (15, some 48, .int .i64 s1.2), (17, some 50, .pointer (some ⟨p10_16.1, p10_16.2.1 + s1.2.toNat * 3 + 2, none⟩)), (18, some 51, .int .i64 x10_16.f2), (19, some 52, .int .i64 (IntKind.wrap .i64 (s157.1 - x10_16.f2))), (20, some 53, .slice h1.1 a1.length h1.2), (21, some 54, .int .i64 s1.2), (23, some 56, .int .i64 x10_22), (24, some 57, .bool (decide ((IntKind.wrap .i64 (s157.1 - x10_16.f2)) < x10_22))), (25, some 58, .bool (decide ((IntKind.wrap .i64 (s157.1 - x10_16.f2)) < x10_22))), (26, some 59, .bool (decide ((IntKind.wrap .i64 (s157.1 - x10_16.f2)) < x10_22))), (3, some 36, .pointer (some ⟨p10_3.1, p10_3.2.1 + s1.2.toNat * 3, none⟩)), (6, some 39, .bool false), (11, some 44, .bool true), (16, some 49, .pointer (some ⟨p10_16.1, p10_16.2.1 + s1.2.toNat * 3, none⟩)), (22, some 55, .pointer (some ⟨p10_22.1, p10_22.2.1 + s1.2.toNat * 1, none⟩))] ([0, 1, 2, 4, 5, 7, 8, 9, 10, 12, 13, 14, 15, 17, 18, 19, 20, 21, 23, 24, 25, 26] ++ [3, 6, 11, 16, 22]) (by kernel_rfl) ?_
                  refine D.fin (fr' := [(0, .slice p1_1.1 x1_1.length p1_1.2), (1, .slice h1.1 a1.length h1.2), (5, .slice g1.1 s1.1.length g1.2), (6, .int .i64 s1.2), (7, .pointer (some ⟨p6_6, 0, none⟩)), (8, .int .i64 s157.1), (41, .int .i64 s1.2), (42, .slice h1.1 a1.length h1.2), (43, .int .i64 (a1.length : Int)), (44, .bool true), (45, .bool true), (46, .int .i64 s157.1), (47, .slice p1_1.1 x1_1.length p1_1.2), (48, .int .i64 s1.2), (49, .pointer (some ⟨p10_16.1, p10_16.2.1 + s1.2.toNat * 3, none⟩)), (50, .pointer (some ⟨p10_16.1, p10_16.2.1 + s1.2.toNat * 3 + 2, none⟩)), (51, .int .i64 x10_16.f2), (52, .int .i64 (IntKind.wrap .i64 (s157.1 - x10_16.f2))), (53, .slice h1.1 a1.length h1.2), (54, .int .i64 s1.2), (55, .pointer (some ⟨p10_22.1, p10_22.2.1 + s1.2.toNat * 1, none⟩)), (56, .int .i64 x10_22), (57, .bool (decide ((IntKind.wrap .i64 (s157.1 - x10_16.f2)) < x10_22))), (58, .bool (decide ((IntKind.wrap .i64 (s157.1 - x10_16.f2)) < x10_22))), (59, .bool (decide ((IntKind.wrap .i64 (s157.1 - x10_16.f2)) < x10_22)))]) [0, 1, 2, 4, 5, 7, 8, 9, 10, 12, 13, 14, 15, 17, 18, 19, 20, 21, 23, 24, 25, 26] [3, 6, 11, 16, 22] [(3, 2), (2, 2), (1, 0)] [p10_3.1, p10_3.2.1 + s1.2.toNat * 3 + 2, p10_16.1, p10_16.2.1 + s1.2.toNat * 3 + 2, p10_22.1, p10_22.2.1 + s1.2.toNat * 1] [0, 1, 5, 6, 7, 8, 41, 42, 43, 44, 45, 46, 47, 48, 49, 50, 51, 52, 53, 54, 55, 56, 57, 58, 59] (by kernel_rfl) (by kernel_rfl) (⟨QuAt.mk (v := .pointer (some ⟨p10_3.1, p10_3.2.1 + s1.2.toNat * 3, none⟩)) (some 36) (by kernel_rfl) (by kernel_rfl) (Qu.idx (t := 27) (x := .tmp 34) (y := .tmp 35) (c := p1_1.2) (kk := .i64) (sz := 3) (by kernel_rfl) (by kernel_rfl) (by kernel_rfl) (by kernel_rfl) hx10_3a (idx_lt hx10_3) hp10_3A), QuAt.mk (v := .bool false) (some 39) (by kernel_rfl) (by kernel_rfl) (Qu.eqv (u := .bool (decide (s157.1 < x10_3.f2))) (v := .bool false) (0, 0) [] (by kernel_rfl) (congrArg Value.bool hc167)), QuAt.mk (v := .bool true) (some 44) (by kernel_rfl) (by kernel_rfl) (Qu.eqv (u := .bool (decide (s1.2 < (a1.length : Int)))) (v := .bool true) (0, 0) [] (by kernel_rfl) (congrArg Value.bool hc168)), QuAt.mk (v := .pointer (some ⟨p10_16.1, p10_16.2.1 + s1.2.toNat * 3, none⟩)) (some 49) (by kernel_rfl) (by kernel_rfl) (Qu.idx (t := 27) (x := .tmp 47) (y := .tmp 48) (c := p1_1.2) (kk := .i64) (sz := 3) (by kernel_rfl) (by kernel_rfl) (by kernel_rfl) (by kernel_rfl) hx10_16a (idx_lt hx10_16) hp10_16A), QuAt.mk (v := .pointer (some ⟨p10_22.1, p10_22.2.1 + s1.2.toNat * 1, none⟩)) (some 55) (by kernel_rfl) (by kernel_rfl) (Qu.idx (t := 41) (x := .tmp 53) (y := .tmp 54) (c := h1.2) (kk := .i64) (sz := 1) (by kernel_rfl) (by kernel_rfl) (by kernel_rfl) (by kernel_rfl) hx10_22a (idx_lt hx10_22) hp10_22A), trivial⟩) (by kernel_rfl) ?_
                  rcases condE H with ⟨hc169, H⟩ | ⟨hc169, H⟩
                  · refine J.condT (x := .tmp 59) (t := (decide ((IntKind.wrap .i64 (s157.1 - x10_16.f2)) < x10_22))) (by kernel_rfl) (by kernel_rfl) hc169 ?_
                    obtain ⟨x11_4, hx11_4, H⟩ := bindE H
                    obtain ⟨hx11_4a, hx11_4⟩ := idxE hx11_4
                    obtain ⟨x11_8, hx11_8, H⟩ := bindE H
                    obtain ⟨hx11_8a, hx11_8⟩ := idxE hx11_8
                    obtain ⟨y11_11, hy11_11, H⟩ := bindE H
                    have hy11_11a := (appE hy11_11).1
                    refine J.open (d := kd39) (h := p1_1) (i := s1.2) 3 rfl hx11_4 (op39 _) (fun p11_4 hp11_4A => ?_)
                    refine J.open (d := (Kd.int .u8)) (h := p11_4.2.2) (i := s157.1) 0 rfl hx11_8 (Lay.int _ _) (fun p11_8 hp11_8A => ?_)
                    refine J.drawS (by kernel_rfl) [(0, some 60, .pointer (some ⟨p6_6, 1, none⟩)), (1, some 61, .slice g157.1 s157.2.length g157.2), (2, some 62, .slice p1_1.1 x1_1.length p1_1.2), (3, some 63, .int .i64 s1.2), (5, some 65, .pointer (some ⟨p11_4.1, p11_4.2.1 + s1.2.toNat * 3 + 1, none⟩)), (6, some 66, .slice p11_4.2.2.1 x11_4.f1.length p11_4.2.2.2), (7, some 67, .int .i64 s157.1), (9, some 69, .int .u8 x11_8), (4, some 64, .pointer (some ⟨p11_4.1, p11_4.2.1 + s1.2.toNat * 3, none⟩)), (8, some 68, .pointer (some ⟨p11_8.1, p11_8.2.1 + s157.1.toNat * 1, none⟩))] ([0, 1, 2, 3, 5, 6, 7, 9] ++ [4, 8]) (by kernel_rfl) ?_
                    refine D.mid (cs := [10]) [0, 1, 2, 3, 5, 6, 7, 9] [4, 8] [(0, 1), (2, 1), (1, 0)] [p6_6, 1, p11_4.1, p11_4.2.1 + s1.2.toNat * 3 + 1, p11_8.1, p11_8.2.1 + s157.1.toNat * 1] (by kernel_rfl) (by kernel_rfl) (⟨QuAt.mk (v := .pointer (some ⟨p11_4.1, p11_4.2.1 + s1.2.toNat * 3, none⟩)) (some 64) (by kernel_rfl) (by kernel_rfl) (Qu.idx (t := 27) (x := .tmp 62) (y := .tmp 63) (c := p1_1.2) (kk := .i64) (sz := 3) (by kernel_rfl) (by kernel_rfl) (by kernel_rfl) (by kernel_rfl) hx11_4a (idx_lt hx11_4) hp11_4A), QuAt.mk (v := .pointer (some ⟨p11_8.1, p11_8.2.1 + s157.1.toNat * 1, none⟩)) (some 68) (by kernel_rfl) (by kernel_rfl) (Qu.idx (t := 30) (x := .tmp 66) (y := .tmp 67) (c := p11_4.2.2.2) (kk := .i64) (sz := 1) (by kernel_rfl) (by kernel_rfl) (by kernel_rfl) (by kernel_rfl) hx11_8a (idx_lt hx11_8) hp11_8A), trivial⟩) (by kernel_rfl) ⟨?_, trivial⟩
                    refine EvStep.mk (some 70) (new := fun p11_10 => []) ([0, 1, 2, 3, 5, 6, 7] ++ [4, 8]) (by kernel_rfl) (Ev.lit (t := 30) (len := 1) (parts := #[(0, .tmp 69)]) (ps := [(0, .int .u8 x11_8)]) (cs := [.int .u8 x11_8]) (e := 5) (Kd.int .u8) ([x11_8] : List Int) (by kernel_rfl) (by kernel_rfl) (by kernel_rfl) (by kernel_rfl) (by kernel_rfl) (by decide) (fun w' hφ => (Els.cons (c := [.int .u8 x11_8]) (rfl) (Els.nil _ _ _)))) (fun p11_10 => by kernel_rfl) (fun p11_10 => ?_)
                    refine D.mid (cs := [11]) [0, 1, 2, 3, 5, 6, 7] [4, 8] [(0, 1), (2, 1)] [p6_6, 1, p11_4.1, p11_4.2.1 + s1.2.toNat * 3 + 1] (by kernel_rfl) (by kernel_rfl) (⟨QuAt.mk (v := .pointer (some ⟨p11_4.1, p11_4.2.1 + s1.2.toNat * 3, none⟩)) (some 64) (by kernel_rfl) (by kernel_rfl) (Qu.idx (t := 27) (x := .tmp 62) (y := .tmp 63) (c := p1_1.2) (kk := .i64) (sz := 3) (by kernel_rfl) (by kernel_rfl) (by kernel_rfl) (by kernel_rfl) hx11_4a (idx_lt hx11_4) hp11_4A), QuAt.mk (v := .pointer (some ⟨p11_8.1, p11_8.2.1 + s157.1.toNat * 1, none⟩)) (some 68) (by kernel_rfl) (by kernel_rfl) (Qu.idx (t := 30) (x := .tmp 66) (y := .tmp 67) (c := p11_4.2.2.2) (kk := .i64) (sz := 1) (by kernel_rfl) (by kernel_rfl) (by kernel_rfl) (by kernel_rfl) hx11_8a (idx_lt hx11_8) hp11_8A), trivial⟩) (by kernel_rfl) ⟨?_, trivial⟩
                    refine EvStep.mk (some 71) (new := fun p11_11 => [(12, some 72, .pointer (some ⟨p6_6, 1, none⟩))]) ([0, 2, 3, 5, 6, 7, 12] ++ [4, 8]) (by kernel_rfl) (Ev.appLit (x := .tmp 61) (y := .tmp 70) (t := 30) (bytes := 1) (by kernel_rfl) (by kernel_rfl) (by kernel_rfl) (by kernel_rfl) (by kernel_rfl) (by decide) hy11_11a) (fun p11_11 => by kernel_rfl) (fun p11_11 => ?_)
                    refine D.mid (cs := [13]) [0, 2, 3, 5, 6, 7, 12] [4, 8] [(2, 1)] [p11_4.1, p11_4.2.1 + s1.2.toNat * 3 + 1] (by kernel_rfl) (by kernel_rfl) (⟨QuAt.mk (v := .pointer (some ⟨p11_4.1, p11_4.2.1 + s1.2.toNat * 3, none⟩)) (some 64) (by kernel_rfl) (by kernel_rfl) (Qu.idx (t := 27) (x := .tmp 62) (y := .tmp 63) (c := p1_1.2) (kk := .i64) (sz := 3) (by kernel_rfl) (by kernel_rfl) (by kernel_rfl) (by kernel_rfl) hx11_4a (idx_lt hx11_4) hp11_4A), QuAt.mk (v := .pointer (some ⟨p11_8.1, p11_8.2.1 + s157.1.toNat * 1, none⟩)) (some 68) (by kernel_rfl) (by kernel_rfl) (Qu.idx (t := 30) (x := .tmp 66) (y := .tmp 67) (c := p11_4.2.2.2) (kk := .i64) (sz := 1) (by kernel_rfl) (by kernel_rfl) (by kernel_rfl) (by kernel_rfl) hx11_8a (idx_lt hx11_8) hp11_8A), trivial⟩) (by kernel_rfl) ⟨?_, trivial⟩
                    refine EvStep.mk none (new := fun _ => []) ([] ++ []) (by kernel_rfl) (Ev.store (kk := 0) (cs := [.string x6_2.f0, .slice p11_11.1 (s157.2 ++ ([x11_8] : List Int)).length p11_11.2, .int .i64 0]) (0, 1) [p6_6, 1] (by kernel_rfl)) (fun _ => by kernel_rfl) (fun _ => ?_)
                    refine D.fin (fr' := [(0, .slice p1_1.1 x1_1.length p1_1.2), (1, .slice h1.1 a1.length h1.2), (5, .slice g1.1 s1.1.length g1.2), (6, .int .i64 s1.2), (7, .pointer (some ⟨p6_6, 0, none⟩)), (8, .int .i64 s157.1), (41, .int .i64 s1.2), (42, .slice h1.1 a1.length h1.2), (43, .int .i64 (a1.length : Int)), (44, .bool true), (45, .bool true), (46, .int .i64 s157.1), (47, .slice p1_1.1 x1_1.length p1_1.2), (48, .int .i64 s1.2), (49, .pointer (some ⟨p10_16.1, p10_16.2.1 + s1.2.toNat * 3, none⟩)), (50, .pointer (some ⟨p10_16.1, p10_16.2.1 + s1.2.toNat * 3 + 2, none⟩)), (51, .int .i64 x10_16.f2), (52, .int .i64 (IntKind.wrap .i64 (s157.1 - x10_16.f2))), (53, .slice h1.1 a1.length h1.2), (54, .int .i64 s1.2), (55, .pointer (some ⟨p10_22.1, p10_22.2.1 + s1.2.toNat * 1, none⟩)), (56, .int .i64 x10_22), (57, .bool (decide ((IntKind.wrap .i64 (s157.1 - x10_16.f2)) < x10_22))), (58, .bool (decide ((IntKind.wrap .i64 (s157.1 - x10_16.f2)) < x10_22)))]) [] [] [] [] [0, 1, 5, 6, 7, 8, 41, 42, 43, 44, 45, 46, 47, 48, 49, 50, 51, 52, 53, 54, 55, 56, 57, 58] (by kernel_rfl) (by kernel_rfl) trivial (by kernel_rfl) ?_
                    refine J.out ?_
                    refine J.region (by kernel_rfl) ?_
                    refine O.pure 3 [] [0, 1, 5, 6, 7, 8, 41, 42, 43, 44, 45, 46, 47, 48, 49, 50, 51, 52, 53, 54, 55, 56, 57, 58] [] (fr' := [(0, .slice p1_1.1 x1_1.length p1_1.2), (1, .slice h1.1 a1.length h1.2), (5, .slice g1.1 s1.1.length g1.2), (6, .int .i64 s1.2), (7, .pointer (some ⟨p6_6, 0, none⟩)), (8, .int .i64 (IntKind.wrap .i64 (s157.1 + 1))), (41, .int .i64 s1.2), (42, .slice h1.1 a1.length h1.2), (43, .int .i64 (a1.length : Int)), (44, .bool true), (45, .bool true), (46, .int .i64 s157.1), (47, .slice p1_1.1 x1_1.length p1_1.2), (48, .int .i64 s1.2), (49, .pointer (some ⟨p10_16.1, p10_16.2.1 + s1.2.toNat * 3, none⟩)), (50, .pointer (some ⟨p10_16.1, p10_16.2.1 + s1.2.toNat * 3 + 2, none⟩)), (51, .int .i64 x10_16.f2), (52, .int .i64 (IntKind.wrap .i64 (s157.1 - x10_16.f2))), (53, .slice h1.1 a1.length h1.2), (54, .int .i64 s1.2), (55, .pointer (some ⟨p10_22.1, p10_22.2.1 + s1.2.toNat * 1, none⟩)), (56, .int .i64 x10_22), (57, .bool (decide ((IntKind.wrap .i64 (s157.1 - x10_16.f2)) < x10_22))), (58, .bool (decide ((IntKind.wrap .i64 (s157.1 - x10_16.f2)) < x10_22)))]) (bx' := [⟨p6_6, [.string x6_2.f0, .slice p11_11.1 (s157.2 ++ ([x11_8] : List Int)).length p11_11.2, .int .i64 0], 39⟩]) (by kernel_rfl) ?_
                    refine O.nil (by kernel_rfl) ?_
                    exact J.conv2 [0, 1, 5, 6, 7, 8] [4, 5, 6] [0] [0, 1] (by kernel_rfl) (by kernel_rfl) (by kernel_rfl) (by kernel_rfl) (by decide) (ih157 ((IntKind.wrap .i64 (s157.1 + 1)), (s157.2 ++ ([x11_8] : List Int))) p11_11 H)
                  · refine J.condF (x := .tmp 59) (t := (decide ((IntKind.wrap .i64 (s157.1 - x10_16.f2)) < x10_22))) (by kernel_rfl) (by kernel_rfl) hc169 ?_
                    refine J.skip (by kernel_rfl) ?_
                    refine J.out ?_
                    refine J.region (by kernel_rfl) ?_
                    refine O.pure 3 [] [0, 1, 5, 6, 7, 8, 41, 42, 43, 44, 45, 46, 47, 48, 49, 50, 51, 52, 53, 54, 55, 56, 57, 58] [] (fr' := [(0, .slice p1_1.1 x1_1.length p1_1.2), (1, .slice h1.1 a1.length h1.2), (5, .slice g1.1 s1.1.length g1.2), (6, .int .i64 s1.2), (7, .pointer (some ⟨p6_6, 0, none⟩)), (8, .int .i64 (IntKind.wrap .i64 (s157.1 + 1))), (41, .int .i64 s1.2), (42, .slice h1.1 a1.length h1.2), (43, .int .i64 (a1.length : Int)), (44, .bool true), (45, .bool true), (46, .int .i64 s157.1), (47, .slice p1_1.1 x1_1.length p1_1.2), (48, .int .i64 s1.2), (49, .pointer (some ⟨p10_16.1, p10_16.2.1 + s1.2.toNat * 3, none⟩)), (50, .pointer (some ⟨p10_16.1, p10_16.2.1 + s1.2.toNat * 3 + 2, none⟩)), (51, .int .i64 x10_16.f2), (52, .int .i64 (IntKind.wrap .i64 (s157.1 - x10_16.f2))), (53, .slice h1.1 a1.length h1.2), (54, .int .i64 s1.2), (55, .pointer (some ⟨p10_22.1, p10_22.2.1 + s1.2.toNat * 1, none⟩)), (56, .int .i64 x10_22), (57, .bool (decide ((IntKind.wrap .i64 (s157.1 - x10_16.f2)) < x10_22))), (58, .bool (decide ((IntKind.wrap .i64 (s157.1 - x10_16.f2)) < x10_22)))]) (bx' := [⟨p6_6, [.string x6_2.f0, .slice g157.1 s157.2.length g157.2, .int .i64 0], 39⟩]) (by kernel_rfl) ?_
                    refine O.nil (by kernel_rfl) ?_
                    exact J.conv2 [0, 1, 5, 6, 7, 8] [3, 4, 5] [0] [0, 1] (by kernel_rfl) (by kernel_rfl) (by kernel_rfl) (by kernel_rfl) (by decide) (ih157 ((IntKind.wrap .i64 (s157.1 + 1)), s157.2) g157 H)
                · refine J.open (d := kd39) (h := p1_1) (i := s1.2) 1 rfl hx10_3 (op39 _) (fun p10_3 hp10_3A => ?_)
                  refine J.drawS (by kernel_rfl) [(0, some 33, .int .i64 s157.1), (1, some 34, .slice p1_1.1 x1_1.length p1_1.2), (2, some 35, .int .i64 s1.2), (4, some 37, .pointer (some ⟨p10_3.1, p10_3.2.1 + s1.2.toNat * 3 + 2, none⟩)), (5, some 38, .int .i64 x10_3.f2), (7, some 40, .bool false), (8, some 41, .int .i64 s1.2), (9, some 42, .slice h1.1 a1.length h1.2), (10, some 43, .int .i64 (a1.length : Int)), (12, some 45, .bool false), (13, some 46, undef), (14, some 47, undef), (15, some 48, undef), (16, some 49, undef), (17, some 50, undef), (18, some 51, undef), (19, some 52, undef), (20, some 53, undef), (21, some 54, undef), (22, some 55, undef), (23, some 56, undef), (24, some 57, undef), (25, some 58, .bool false), (26, some 59, .bool false), (3, some 36, .pointer (some ⟨p10_3.1, p10_3.2.1 + s1.2.toNat * 3, none⟩)), (6, some 39, .bool false), (11, some 44, .bool false)] ([0, 1, 2, 4, 5, 7, 8, 9, 10, 12, 13, 14, 15, 16, 17, 18, 19, 20, 21, 22, 23, 24, 25, 26] ++ [3, 6, 11]) (by kernel_rfl) ?_
                  refine D.fin (fr' := [(0, .slice p1_1.1 x1_1.length p1_1.2), (1, .slice h1.1 a1.length h1.2), (5, .slice g1.1 s1.1.length g1.2), (6, .int .i64 s1.2), (7, .pointer (some ⟨p6_6, 0, none⟩)), (8, .int .i64 s157.1), (41, .int .i64 s1.2), (42, .slice h1.1 a1.length h1.2), (43, .int .i64 (a1.length : Int)), (44, .bool false), (45, .bool false), (46, undef), (47, undef), (48, undef), (49, undef), (50, undef), (51, undef), (52, undef), (53, undef), (54, undef), (55, undef), (56, undef), (57, undef), (58, .bool false), (59, .bool false)]) [0, 1, 2, 4, 5, 7, 8, 9, 10, 12, 13, 14, 15, 16, 17, 18, 19, 20, 21, 22, 23, 24, 25, 26] [3, 6, 11] [(1, 2)] [p10_3.1, p10_3.2.1 + s1.2.toNat * 3 + 2] [0, 1, 5, 6, 7, 8, 41, 42, 43, 44, 45, 46, 47, 48, 49, 50, 51, 52, 53, 54, 55, 56, 57, 58, 59] (by kernel_rfl) (by kernel_rfl) (⟨QuAt.mk (v := .pointer (some ⟨p10_3.1, p10_3.2.1 + s1.2.toNat * 3, none⟩)) (some 36) (by kernel_rfl) (by kernel_rfl) (Qu.idx (t := 27) (x := .tmp 34) (y := .tmp 35) (c := p1_1.2) (kk := .i64) (sz := 3) (by kernel_rfl) (by kernel_rfl) (by kernel_rfl) (by kernel_rfl) hx10_3a (idx_lt hx10_3) hp10_3A), QuAt.mk (v := .bool false) (some 39) (by kernel_rfl) (by kernel_rfl) (Qu.eqv (u := .bool (decide (s157.1 < x10_3.f2))) (v := .bool false) (0, 0) [] (by kernel_rfl) (congrArg Value.bool hc167)), QuAt.mk (v := .bool false) (some 44) (by kernel_rfl) (by kernel_rfl) (Qu.eqv (u := .bool (decide (s1.2 < (a1.length : Int)))) (v := .bool false) (0, 0) [] (by kernel_rfl) (congrArg Value.bool hc168)), trivial⟩) (by kernel_rfl) ?_
                  refine J.cond (o := .tmp 59) false (by kernel_rfl) (by kernel_rfl) ?_
                  refine J.skip (by kernel_rfl) ?_
                  refine J.out ?_
                  refine J.region (by kernel_rfl) ?_
                  refine O.pure 3 [] [0, 1, 5, 6, 7, 8, 41, 42, 43, 44, 45, 46, 47, 48, 49, 50, 51, 52, 53, 54, 55, 56, 57, 58] [] (fr' := [(0, .slice p1_1.1 x1_1.length p1_1.2), (1, .slice h1.1 a1.length h1.2), (5, .slice g1.1 s1.1.length g1.2), (6, .int .i64 s1.2), (7, .pointer (some ⟨p6_6, 0, none⟩)), (8, .int .i64 (IntKind.wrap .i64 (s157.1 + 1))), (41, .int .i64 s1.2), (42, .slice h1.1 a1.length h1.2), (43, .int .i64 (a1.length : Int)), (44, .bool false), (45, .bool false), (46, undef), (47, undef), (48, undef), (49, undef), (50, undef), (51, undef), (52, undef), (53, undef), (54, undef), (55, undef), (56, undef), (57, undef), (58, .bool false)]) (bx' := [⟨p6_6, [.string x6_2.f0, .slice g157.1 s157.2.length g157.2, .int .i64 0], 39⟩]) (by kernel_rfl) ?_
                  refine O.nil (by kernel_rfl) ?_
                  exact J.conv2 [0, 1, 5, 6, 7, 8] [2, 3, 4] [0] [0, 1] (by kernel_rfl) (by kernel_rfl) (by kernel_rfl) (by kernel_rfl) (by decide) (ih157 ((IntKind.wrap .i64 (s157.1 + 1)), s157.2) g157 H)
            · refine J.condF (x := .tmp 30) (t := (decide (s157.1 < (x8_3.f1.length : Int)))) (by kernel_rfl) (by kernel_rfl) hc166 ?_
              refine J.exit (id := 2) (by kernel_rfl) rfl ?_
              obtain rfl := Option.some.inj H
              exact J.conv2 [0, 1, 5, 6, 7] [1, 2, 3] [0] [0, 1] (by kernel_rfl) (by kernel_rfl) (by kernel_rfl) (by kernel_rfl) (by decide) (hj143 g157)
          · refine J.nilrow (Kd.int .u8) 5 ?_
            exact J.conv2 [0, 1, 5, 6, 7, 8] [1, 2, 3] [0] [0, 1] (by kernel_rfl) (by kernel_rfl) (by kernel_rfl) (by kernel_rfl) (by decide) h_
    · refine J.condF (x := .tmp 14) (t := (decide (s1.2 < (x1_1.length : Int)))) (by kernel_rfl) (by kernel_rfl) hc114 ?_
      refine J.exit (id := 0) (by kernel_rfl) rfl ?_
      refine J.seq (by kernel_rfl) ?_
      refine J.region (by kernel_rfl) ?_
      refine O.pure 2 [] [4] [] (fr' := [(4, .slice g1.1 s1.1.length g1.2)]) (bx' := []) (by kernel_rfl) ?_
      refine O.nil (by kernel_rfl) ?_
      obtain rfl := Option.some.inj H
      exact J.doneS [] [] [] [] [0] g1 (vs := [.slice g1.1 s1.1.length g1.2]) (by kernel_rfl) (by kernel_rfl) (by kernel_rfl) (by kernel_rfl) (by kernel_rfl) (by decide)
  · refine J.nilrow kd39 39 ?_
    exact J.conv2 [0, 1, 5, 6] [0, 1, 2] [] [0] (by kernel_rfl) (by kernel_rfl) (by kernel_rfl) (by kernel_rfl) (by decide) h_
/-! ### haywain/haywainlaw13.does: function 24 -/
def haywainlaw13_does.f (K : Nat) (a0 : List S39) (a1 : S52) : Option ((List S39) × Int) := cond (a1.f0 == 0) ((haywainref13_Put.f K a0 a1.f2 a1.f3).bind fun x3_5 => some ((x3_5.1, x3_5.2))) (cond (a1.f0 == 1) ((haywainref13_Sync.f K a0 a1.f2).bind fun x5_3 => some ((x5_3.1, x5_3.2))) (cond (a1.f0 == 2) ((haywainref13_Cut.f K a0 a1.f2 a1.f1).bind fun x7_5 => some ((x7_5.1, x7_5.2))) (cond (a1.f0 == 3) ((haywainref13_Drop.f K a0 a1.f2).bind fun x9_3 => some ((x9_3.1, x9_3.2))) ((haywainref13_Crash.f K a0 a1.f4).bind fun x10_3 => some ((x10_3, 0))))))
set_option maxRecDepth 100000 in
set_option maxHeartbeats 1000000 in
theorem haywainlaw13_does.con (K : Nat) (a0 : List S39) (a1 : S52) (h0 : Hd) (h1 : Hd) (h2 : Hd) (r : ((List S39) × Int)) (X : Nat → Nat → Prop) (w : World) (hS : St X w [] [] [] [] [Rd kd39 h0.1 h0.2 a0, Rd (Kd.int .u8) h1.1 h1.2 a1.f3, Rd (Kd.int .i64) h2.1 h2.2 a1.f4] w) (H : haywainlaw13_does.f K a0 a1 = some r) :
    Cn Try.prog 24 [.slice h0.1 a0.length h0.2, .agg #[.int .i64 a1.f0, .int .i64 a1.f1, .string a1.f2, .slice h1.1 a1.f3.length h1.2, .slice h2.1 a1.f4.length h2.2]] X w [] (fun i : Hd => .tuple #[.slice i.1 r.1.length i.2, .int .i64 r.2]) (fun i => []) (fun i => []) (fun i => [Rd kd39 i.1 i.2 r.1]) := by
  refine Cn.of Try.func24 (by kernel_rfl) hS ?_
  unfold haywainlaw13_does.f at H
  refine J.seq (by kernel_rfl) ?_
  refine J.region (by kernel_rfl) ?_
  refine O.e (some 3) (Ev.box (t := 52) (x := .tmp 1) (v := .agg #[.int .i64 a1.f0, .int .i64 a1.f1, .string a1.f2, .slice h1.1 a1.f3.length h1.2, .slice h2.1 a1.f4.length h2.2]) (by kernel_rfl) (by kernel_rfl)) (by kernel_rfl) (fun p0_0 => ?_)
  refine O.pure 2 [] [0, 3] [] (fr' := [(0, .slice h0.1 a0.length h0.2), (3, .pointer (some ⟨p0_0, 0, none⟩))]) (bx' := [⟨p0_0, [.int .i64 a1.f0, .int .i64 a1.f1, .string a1.f2, .slice h1.1 a1.f3.length h1.2, .slice h2.1 a1.f4.length h2.2], 52⟩]) (by kernel_rfl) ?_
  refine O.nil (by kernel_rfl) ?_
  refine J.seq (by kernel_rfl) ?_
  refine J.seq (by kernel_rfl) ?_
  refine J.region (by kernel_rfl) ?_
  refine O.pure 2 [(0, 0)] [0, 3, 7] [p0_0, 0] (fr' := [(0, .slice h0.1 a0.length h0.2), (3, .pointer (some ⟨p0_0, 0, none⟩)), (7, .int .i64 a1.f0)]) (bx' := [⟨p0_0, [.int .i64 a1.f0, .int .i64 a1.f1, .string a1.f2, .slice h1.1 a1.f3.length h1.2, .slice h2.1 a1.f4.length h2.2], 52⟩]) (by kernel_rfl) ?_
  refine O.nil (by kernel_rfl) ?_
  refine J.block (id := 0) (by kernel_rfl) ?_
  refine J.seq (by kernel_rfl) ?_
  refine J.region (by kernel_rfl) ?_
  refine O.pure 2 [] [0, 3, 7, 8] [] (fr' := [(0, .slice h0.1 a0.length h0.2), (3, .pointer (some ⟨p0_0, 0, none⟩)), (7, .int .i64 a1.f0), (8, .bool (a1.f0 == 0))]) (bx' := [⟨p0_0, [.int .i64 a1.f0, .int .i64 a1.f1, .string a1.f2, .slice h1.1 a1.f3.length h1.2, .slice h2.1 a1.f4.length h2.2], 52⟩]) (by kernel_rfl) ?_
  refine O.nil (by kernel_rfl) ?_
  rcases condE H with ⟨hc1, H⟩ | ⟨hc1, H⟩
  · refine J.condT (x := .tmp 8) (t := (a1.f0 == 0)) (by kernel_rfl) (by kernel_rfl) hc1 ?_
    refine J.seq (by kernel_rfl) ?_
    obtain ⟨x3_5, hx3_5, H⟩ := bindE H
    refine J.region (by kernel_rfl) ?_
    refine O.pure 5 [(0, 2), (0, 3)] [10, 12, 14] [p0_0, 2, p0_0, 3] (fr' := [(10, .slice h0.1 a0.length h0.2), (12, .string a1.f2), (14, .slice h1.1 a1.f3.length h1.2)]) (bx' := [⟨p0_0, [.int .i64 a1.f0, .int .i64 a1.f1, .string a1.f2, .slice h1.1 a1.f3.length h1.2, .slice h2.1 a1.f4.length h2.2], 52⟩]) (by kernel_rfl) ?_
    refine O.e (some 15) (Ev.call0 (xs := [.tmp 10, .tmp 12, .tmp 14]) [0, 1] (by kernel_rfl) (by kernel_rfl) (fun w hS => haywainref13_Put.con K a0 a1.f2 a1.f3 h0 h1  _ _ w hS hx3_5)) (by kernel_rfl) (fun p3_5 => ?_)
    refine O.pure 4 [] [4, 5] [] (fr' := [(4, .slice p3_5.1 x3_5.1.length p3_5.2), (5, .int .i64 x3_5.2)]) (bx' := [⟨p0_0, [.int .i64 a1.f0, .int .i64 a1.f1, .string a1.f2, .slice h1.1 a1.f3.length h1.2, .slice h2.1 a1.f4.length h2.2], 52⟩]) (by kernel_rfl) ?_
    refine O.nil (by kernel_rfl) ?_
    obtain rfl := Option.some.inj H
    exact J.doneS [] [] [0] [] [] p3_5 (vs := [.slice p3_5.1 x3_5.1.length p3_5.2, .int .i64 x3_5.2]) (by kernel_rfl) (by kernel_rfl) (by kernel_rfl) (by kernel_rfl) (by kernel_rfl) (by decide)
  · refine J.condF (x := .tmp 8) (t := (a1.f0 == 0)) (by kernel_rfl) (by kernel_rfl) hc1 ?_
    refine J.seq (by kernel_rfl) ?_
    refine J.region (by kernel_rfl) ?_
    refine O.pure 2 [] [0, 3, 7, 18] [] (fr' := [(0, .slice h0.1 a0.length h0.2), (3, .pointer (some ⟨p0_0, 0, none⟩)), (7, .int .i64 a1.f0), (18, .bool (a1.f0 == 1))]) (bx' := [⟨p0_0, [.int .i64 a1.f0, .int .i64 a1.f1, .string a1.f2, .slice h1.1 a1.f3.length h1.2, .slice h2.1 a1.f4.length h2.2], 52⟩]) (by kernel_rfl) ?_
    refine O.nil (by kernel_rfl) ?_
    rcases condE H with ⟨hc2, H⟩ | ⟨hc2, H⟩
    · refine J.condT (x := .tmp 18) (t := (a1.f0 == 1)) (by kernel_rfl) (by kernel_rfl) hc2 ?_
      refine J.seq (by kernel_rfl) ?_
      obtain ⟨x5_3, hx5_3, H⟩ := bindE H
      refine J.region (by kernel_rfl) ?_
      refine O.pure 3 [(0, 2)] [20, 22] [p0_0, 2] (fr' := [(20, .slice h0.1 a0.length h0.2), (22, .string a1.f2)]) (bx' := [⟨p0_0, [.int .i64 a1.f0, .int .i64 a1.f1, .string a1.f2, .slice h1.1 a1.f3.length h1.2, .slice h2.1 a1.f4.length h2.2], 52⟩]) (by kernel_rfl) ?_
      refine O.e (some 23) (Ev.call0 (xs := [.tmp 20, .tmp 22]) [0] (by kernel_rfl) (by kernel_rfl) (fun w hS => haywainref13_Sync.con K a0 a1.f2 h0  _ _ w hS hx5_3)) (by kernel_rfl) (fun p5_3 => ?_)
      refine O.pure 4 [] [4, 5] [] (fr' := [(4, .slice p5_3.1 x5_3.1.length p5_3.2), (5, .int .i64 x5_3.2)]) (bx' := [⟨p0_0, [.int .i64 a1.f0, .int .i64 a1.f1, .string a1.f2, .slice h1.1 a1.f3.length h1.2, .slice h2.1 a1.f4.length h2.2], 52⟩]) (by kernel_rfl) ?_
      refine O.nil (by kernel_rfl) ?_
      obtain rfl := Option.some.inj H
      exact J.doneS [] [] [0] [] [] p5_3 (vs := [.slice p5_3.1 x5_3.1.length p5_3.2, .int .i64 x5_3.2]) (by kernel_rfl) (by kernel_rfl) (by kernel_rfl) (by kernel_rfl) (by kernel_rfl) (by decide)
    · refine J.condF (x := .tmp 18) (t := (a1.f0 == 1)) (by kernel_rfl) (by kernel_rfl) hc2 ?_
      refine J.seq (by kernel_rfl) ?_
      refine J.region (by kernel_rfl) ?_
      refine O.pure 2 [] [0, 3, 7, 26] [] (fr' := [(0, .slice h0.1 a0.length h0.2), (3, .pointer (some ⟨p0_0, 0, none⟩)), (7, .int .i64 a1.f0), (26, .bool (a1.f0 == 2))]) (bx' := [⟨p0_0, [.int .i64 a1.f0, .int .i64 a1.f1, .string a1.f2, .slice h1.1 a1.f3.length h1.2, .slice h2.1 a1.f4.length h2.2], 52⟩]) (by kernel_rfl) ?_
      refine O.nil (by kernel_rfl) ?_
      rcases condE H with ⟨hc3, H⟩ | ⟨hc3, H⟩
      · refine J.condT (x := .tmp 26) (t := (a1.f0 == 2)) (by kernel_rfl) (by kernel_rfl) hc3 ?_
        refine J.seq (by kernel_rfl) ?_
        obtain ⟨x7_5, hx7_5, H⟩ := bindE H
        refine J.region (by kernel_rfl) ?_
        refine O.pure 5 [(0, 2), (0, 1)] [28, 30, 32] [p0_0, 2, p0_0, 1] (fr' := [(28, .slice h0.1 a0.length h0.2), (30, .string a1.f2), (32, .int .i64 a1.f1)]) (bx' := [⟨p0_0, [.int .i64 a1.f0, .int .i64 a1.f1, .string a1.f2, .slice h1.1 a1.f3.length h1.2, .slice h2.1 a1.f4.length h2.2], 52⟩]) (by kernel_rfl) ?_
        refine O.e (some 33) (Ev.call0 (xs := [.tmp 28, .tmp 30, .tmp 32]) [0] (by kernel_rfl) (by kernel_rfl) (fun w hS => haywainref13_Cut.con K a0 a1.f2 a1.f1 h0  _ _ w hS hx7_5)) (by kernel_rfl) (fun p7_5 => ?_)
        refine O.pure 4 [] [4, 5] [] (fr' := [(4, .slice p7_5.1 x7_5.1.length p7_5.2), (5, .int .i64 x7_5.2)]) (bx' := [⟨p0_0, [.int .i64 a1.f0, .int .i64 a1.f1, .string a1.f2, .slice h1.1 a1.f3.length h1.2, .slice h2.1 a1.f4.length h2.2], 52⟩]) (by kernel_rfl) ?_
        refine O.nil (by kernel_rfl) ?_
        obtain rfl := Option.some.inj H
        exact J.doneS [] [] [0] [] [] p7_5 (vs := [.slice p7_5.1 x7_5.1.length p7_5.2, .int .i64 x7_5.2]) (by kernel_rfl) (by kernel_rfl) (by kernel_rfl) (by kernel_rfl) (by kernel_rfl) (by decide)
      · refine J.condF (x := .tmp 26) (t := (a1.f0 == 2)) (by kernel_rfl) (by kernel_rfl) hc3 ?_
        refine J.seq (by kernel_rfl) ?_
        refine J.region (by kernel_rfl) ?_
        refine O.pure 2 [] [0, 3, 36] [] (fr' := [(0, .slice h0.1 a0.length h0.2), (3, .pointer (some ⟨p0_0, 0, none⟩)), (36, .bool (a1.f0 == 3))]) (bx' := [⟨p0_0, [.int .i64 a1.f0, .int .i64 a1.f1, .string a1.f2, .slice h1.1 a1.f3.length h1.2, .slice h2.1 a1.f4.length h2.2], 52⟩]) (by kernel_rfl) ?_
        refine O.nil (by kernel_rfl) ?_
        rcases condE H with ⟨hc4, H⟩ | ⟨hc4, H⟩
        · refine J.condT (x := .tmp 36) (t := (a1.f0 == 3)) (by kernel_rfl) (by kernel_rfl) hc4 ?_
          refine J.seq (by kernel_rfl) ?_
          obtain ⟨x9_3, hx9_3, H⟩ := bindE H
          refine J.region (by kernel_rfl) ?_
          refine O.pure 3 [(0, 2)] [38, 40] [p0_0, 2] (fr' := [(38, .slice h0.1 a0.length h0.2), (40, .string a1.f2)]) (bx' := [⟨p0_0, [.int .i64 a1.f0, .int .i64 a1.f1, .string a1.f2, .slice h1.1 a1.f3.length h1.2, .slice h2.1 a1.f4.length h2.2], 52⟩]) (by kernel_rfl) ?_
          refine O.e (some 41) (Ev.call0 (xs := [.tmp 38, .tmp 40]) [0] (by kernel_rfl) (by kernel_rfl) (fun w hS => haywainref13_Drop.con K a0 a1.f2 h0  _ _ w hS hx9_3)) (by kernel_rfl) (fun p9_3 => ?_)
          refine O.pure 4 [] [4, 5] [] (fr' := [(4, .slice p9_3.1 x9_3.1.length p9_3.2), (5, .int .i64 x9_3.2)]) (bx' := [⟨p0_0, [.int .i64 a1.f0, .int .i64 a1.f1, .string a1.f2, .slice h1.1 a1.f3.length h1.2, .slice h2.1 a1.f4.length h2.2], 52⟩]) (by kernel_rfl) ?_
          refine O.nil (by kernel_rfl) ?_
          obtain rfl := Option.some.inj H
          exact J.doneS [] [] [0] [] [] p9_3 (vs := [.slice p9_3.1 x9_3.1.length p9_3.2, .int .i64 x9_3.2]) (by kernel_rfl) (by kernel_rfl) (by kernel_rfl) (by kernel_rfl) (by kernel_rfl) (by decide)
        · refine J.condF (x := .tmp 36) (t := (a1.f0 == 3)) (by kernel_rfl) (by kernel_rfl) hc4 ?_
          refine J.skip (by kernel_rfl) ?_
          refine J.out ?_
          refine J.seq (by kernel_rfl) ?_
          obtain ⟨x10_3, hx10_3, H⟩ := bindE H
          refine J.region (by kernel_rfl) ?_
          refine O.pure 3 [(0, 4)] [44, 46] [p0_0, 4] (fr' := [(44, .slice h0.1 a0.length h0.2), (46, .slice h2.1 a1.f4.length h2.2)]) (bx' := [⟨p0_0, [.int .i64 a1.f0, .int .i64 a1.f1, .string a1.f2, .slice h1.1 a1.f3.length h1.2, .slice h2.1 a1.f4.length h2.2], 52⟩]) (by kernel_rfl) ?_
          refine O.e (some 47) (Ev.call0 (xs := [.tmp 44, .tmp 46]) [0, 2] (by kernel_rfl) (by kernel_rfl) (fun w hS => haywainref13_Crash.con K a0 a1.f4 h0 h2  _ _ w hS hx10_3)) (by kernel_rfl) (fun p10_3 => ?_)
          refine O.pure 2 [] [4, 5] [] (fr' := [(4, .slice p10_3.1 x10_3.length p10_3.2), (5, .int .i64 0)]) (bx' := [⟨p0_0, [.int .i64 a1.f0, .int .i64 a1.f1, .string a1.f2, .slice h1.1 a1.f3.length h1.2, .slice h2.1 a1.f4.length h2.2], 52⟩]) (by kernel_rfl) ?_
          refine O.nil (by kernel_rfl) ?_
          obtain rfl := Option.some.inj H
          refine J.mono (fun w hS => hS.freezeH (h := p10_3) (xs := x10_3)) ?_
          exact J.doneS [] [] [0] [] [] p10_3 (vs := [.slice p10_3.1 x10_3.length p10_3.2, .int .i64 0]) (by kernel_rfl) (by kernel_rfl) (by kernel_rfl) (by kernel_rfl) (by kernel_rfl) (by decide)
end Go.Proofs.Ytfgdceeceehmpaa.G
