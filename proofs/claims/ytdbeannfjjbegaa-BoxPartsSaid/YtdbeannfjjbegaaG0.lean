/- Functions of the program as plain Lean, with their contracts (part 0); printed by a program of this session. -/
import Derived.Test.YtdbeannfjjbegaaHw
import Derived.Test.YtdbeannfjjbegaaProg
set_option linter.unusedVariables false
set_option linter.unusedSimpArgs false
namespace Go.Proofs.Ytdbeannfjjbegaa.G
open Go Go.RowKit Go.Hw
structure S40 where
  f0 : Int
  f1 : Int
def kd40 : Kd S40 where
  sz := 2
  K := fun w x cs => cs = [.int .i64 x.f0, .int .i64 x.f1]
  len := by rintro w x cs rfl; rfl
  one := by rintro w x cs rfl u hu; simp at hu; rcases hu with rfl | rfl <;> rfl
  mono := by rintro w w' x cs hw rfl; exact rfl
theorem op40 (x : S40) : Lay kd40 x (fun i : Unit => [.int .i64 x.f0, .int .i64 x.f1]) (fun i => []) := by
  intro X w cs h
  exact ⟨(), h w (Away.refl _ _), by simp⟩
def wf40 (x : S40) : Prop := ((Lit.int .i64 x.f0).wf = true) ∧ ((Lit.int .i64 x.f1).wf = true)
structure S61 where
  f0 : Int
  f1 : Int
  f2 : Int
  f3 : Int
def kd61 : Kd S61 where
  sz := 4
  K := fun w x cs => cs = [.int .i64 x.f0, .int .i64 x.f1, .int .i64 x.f2, .int .i64 x.f3]
  len := by rintro w x cs rfl; rfl
  one := by rintro w x cs rfl u hu; simp at hu; rcases hu with rfl | rfl | rfl | rfl <;> rfl
  mono := by rintro w w' x cs hw rfl; exact rfl
theorem op61 (x : S61) : Lay kd61 x (fun i : Unit => [.int .i64 x.f0, .int .i64 x.f1, .int .i64 x.f2, .int .i64 x.f3]) (fun i => []) := by
  intro X w cs h
  exact ⟨(), h w (Away.refl _ _), by simp⟩
def wf61 (x : S61) : Prop := ((Lit.int .i64 x.f0).wf = true) ∧ ((Lit.int .i64 x.f1).wf = true) ∧ ((Lit.int .i64 x.f2).wf = true) ∧ ((Lit.int .i64 x.f3).wf = true)
structure S59 where
  f0 : Int
  f1 : Int
  f2 : Int
def kd59 : Kd S59 where
  sz := 3
  K := fun w x cs => cs = [.int .i64 x.f0, .int .i64 x.f1, .int .i64 x.f2]
  len := by rintro w x cs rfl; rfl
  one := by rintro w x cs rfl u hu; simp at hu; rcases hu with rfl | rfl | rfl <;> rfl
  mono := by rintro w w' x cs hw rfl; exact rfl
theorem op59 (x : S59) : Lay kd59 x (fun i : Unit => [.int .i64 x.f0, .int .i64 x.f1, .int .i64 x.f2]) (fun i => []) := by
  intro X w cs h
  exact ⟨(), h w (Away.refl _ _), by simp⟩
def wf59 (x : S59) : Prop := ((Lit.int .i64 x.f0).wf = true) ∧ ((Lit.int .i64 x.f1).wf = true) ∧ ((Lit.int .i64 x.f2).wf = true)
/-! ### haywain/haywainlaw05.great: function 10 -/
def haywainlaw05_great.f (K : Nat) (a0 : List S40) : Option Bool := some ((decide ((a0.length : Int) > 300)))
set_option maxRecDepth 100000 in
set_option maxHeartbeats 1000000 in
theorem haywainlaw05_great.con (K : Nat) (a0 : List S40) (h0 : Hd) (r : Bool) (X : Nat → Nat → Prop) (w : World) (hS : St X w [] [] [] [] [Rd kd40 h0.1 h0.2 a0] w) (H : haywainlaw05_great.f K a0 = some r) :
    Cn Try.prog 10 [.slice h0.1 a0.length h0.2] X w [] (fun i : Unit => .bool r) (fun i => []) (fun i => []) (fun i => []) := by
  refine Cn.of Try.func10 (by kernel_rfl) hS ?_
  unfold haywainlaw05_great.f at H
  refine J.seq (by kernel_rfl) ?_
  refine J.region (by kernel_rfl) ?_
  refine O.pure 1 [] [0] [] (fr' := [(0, .slice h0.1 a0.length h0.2)]) (bx' := []) (by kernel_rfl) ?_
  refine O.nil (by kernel_rfl) ?_
  refine J.seq (by kernel_rfl) ?_
  refine J.region (by kernel_rfl) ?_
  refine O.pure 4 [] [2] [] (fr' := [(2, .bool (decide ((a0.length : Int) > 300)))]) (bx' := []) (by kernel_rfl) ?_
  refine O.nil (by kernel_rfl) ?_
  obtain rfl := Option.some.inj H
  exact J.doneS [] [] [] [] [] () (vs := [.bool (decide ((a0.length : Int) > 300))]) (by kernel_rfl) (by kernel_rfl) (by kernel_rfl) (by kernel_rfl) (by kernel_rfl) (by decide)
/-! ### haywain/box.ahead: function 25 -/
def box_ahead.f (K : Nat) (a0 : S40) (a1 : S40) : Option Bool := cond (decide (a0.f0 < a1.f0)) (some (true)) (cond (a0.f0 == a1.f0) (some ((decide (a0.f1 < a1.f1)))) (some (false)))
set_option maxRecDepth 100000 in
set_option maxHeartbeats 1000000 in
theorem box_ahead.con (K : Nat) (a0 : S40) (a1 : S40) (r : Bool) (X : Nat → Nat → Prop) (w : World) (hS : St X w [] [] [] [] [] w) (H : box_ahead.f K a0 a1 = some r) :
    Cn Try.prog 25 [.agg #[.int .i64 a0.f0, .int .i64 a0.f1], .agg #[.int .i64 a1.f0, .int .i64 a1.f1]] X w [] (fun i : Unit => .bool r) (fun i => []) (fun i => []) (fun i => []) := by
  refine Cn.of Try.func25 (by kernel_rfl) hS ?_
  unfold box_ahead.f at H
  refine J.seq (by kernel_rfl) ?_
  refine J.region (by kernel_rfl) ?_
  refine O.e (some 2) (Ev.box (t := 40) (x := .tmp 0) (v := .agg #[.int .i64 a0.f0, .int .i64 a0.f1]) (by kernel_rfl) (by kernel_rfl)) (by kernel_rfl) (fun p0_0 => ?_)
  refine O.e (some 3) (Ev.box (t := 40) (x := .tmp 1) (v := .agg #[.int .i64 a1.f0, .int .i64 a1.f1]) (by kernel_rfl) (by kernel_rfl)) (by kernel_rfl) (fun p0_1 => ?_)
  refine O.pure 1 [] [2, 3] [] (fr' := [(2, .pointer (some ⟨p0_0, 0, none⟩)), (3, .pointer (some ⟨p0_1, 0, none⟩))]) (bx' := [⟨p0_1, [.int .i64 a1.f0, .int .i64 a1.f1], 40⟩, ⟨p0_0, [.int .i64 a0.f0, .int .i64 a0.f1], 40⟩]) (by kernel_rfl) ?_
  refine O.nil (by kernel_rfl) ?_
  refine J.seq (by kernel_rfl) ?_
  rcases condE H with ⟨hc1, H⟩ | ⟨hc1, H⟩
  · refine J.region (by kernel_rfl) ?_
    refine O.pure 4 [(1, 0), (0, 0)] [2, 3, 6, 8] [p0_0, 0, p0_1, 0] (fr' := [(2, .pointer (some ⟨p0_0, 0, none⟩)), (3, .pointer (some ⟨p0_1, 0, none⟩)), (6, .int .i64 a0.f0), (8, .int .i64 a1.f0)]) (bx' := [⟨p0_1, [.int .i64 a1.f0, .int .i64 a1.f1], 40⟩, ⟨p0_0, [.int .i64 a0.f0, .int .i64 a0.f1], 40⟩]) (by kernel_rfl) ?_
    refine O.q (v := .bool true) (some 9) (Qu.eqv (u := .bool (decide (a0.f0 < a1.f0))) (v := .bool true) (0, 0) [] (by kernel_rfl) (congrArg Value.bool hc1)) (by kernel_rfl) ?_
    refine O.pure 15 [] [4] [] (fr' := [(4, .bool true)]) (bx' := [⟨p0_1, [.int .i64 a1.f0, .int .i64 a1.f1], 40⟩, ⟨p0_0, [.int .i64 a0.f0, .int .i64 a0.f1], 40⟩]) (by kernel_rfl) ?_
    refine O.nil (by kernel_rfl) ?_
    obtain rfl := Option.some.inj H
    exact J.doneS [] [] [] [] [] () (vs := [.bool true]) (by kernel_rfl) (by kernel_rfl) (by kernel_rfl) (by kernel_rfl) (by kernel_rfl) (by decide)
  · rcases condE H with ⟨hc2, H⟩ | ⟨hc2, H⟩
    · refine J.region (by kernel_rfl) ?_
      refine O.pure 4 [(1, 0), (0, 0)] [2, 3, 6, 8] [p0_0, 0, p0_1, 0] (fr' := [(2, .pointer (some ⟨p0_0, 0, none⟩)), (3, .pointer (some ⟨p0_1, 0, none⟩)), (6, .int .i64 a0.f0), (8, .int .i64 a1.f0)]) (bx' := [⟨p0_1, [.int .i64 a1.f0, .int .i64 a1.f1], 40⟩, ⟨p0_0, [.int .i64 a0.f0, .int .i64 a0.f1], 40⟩]) (by kernel_rfl) ?_
      refine O.q (v := .bool false) (some 9) (Qu.eqv (u := .bool (decide (a0.f0 < a1.f0))) (v := .bool false) (0, 0) [] (by kernel_rfl) (congrArg Value.bool hc1)) (by kernel_rfl) ?_
      refine O.pure 5 [(1, 0), (0, 0)] [2, 3, 10, 12, 14] [p0_0, 0, p0_1, 0] (fr' := [(2, .pointer (some ⟨p0_0, 0, none⟩)), (3, .pointer (some ⟨p0_1, 0, none⟩)), (10, .bool false), (12, .int .i64 a0.f0), (14, .int .i64 a1.f0)]) (bx' := [⟨p0_1, [.int .i64 a1.f0, .int .i64 a1.f1], 40⟩, ⟨p0_0, [.int .i64 a0.f0, .int .i64 a0.f1], 40⟩]) (by kernel_rfl) ?_
      refine O.q (v := .bool true) (some 15) (Qu.eqv (u := .bool (a0.f0 == a1.f0)) (v := .bool true) (0, 0) [] (by kernel_rfl) (congrArg Value.bool hc2)) (by kernel_rfl) ?_
      refine O.pure 9 [(1, 1), (0, 1)] [4] [p0_0, 1, p0_1, 1] (fr' := [(4, .bool (decide (a0.f1 < a1.f1)))]) (bx' := [⟨p0_1, [.int .i64 a1.f0, .int .i64 a1.f1], 40⟩, ⟨p0_0, [.int .i64 a0.f0, .int .i64 a0.f1], 40⟩]) (by kernel_rfl) ?_
      refine O.nil (by kernel_rfl) ?_
      obtain rfl := Option.some.inj H
      exact J.doneS [] [] [] [] [] () (vs := [.bool (decide (a0.f1 < a1.f1))]) (by kernel_rfl) (by kernel_rfl) (by kernel_rfl) (by kernel_rfl) (by kernel_rfl) (by decide)
    · refine J.region (by kernel_rfl) ?_
      refine O.pure 4 [(1, 0), (0, 0)] [2, 3, 6, 8] [p0_0, 0, p0_1, 0] (fr' := [(2, .pointer (some ⟨p0_0, 0, none⟩)), (3, .pointer (some ⟨p0_1, 0, none⟩)), (6, .int .i64 a0.f0), (8, .int .i64 a1.f0)]) (bx' := [⟨p0_1, [.int .i64 a1.f0, .int .i64 a1.f1], 40⟩, ⟨p0_0, [.int .i64 a0.f0, .int .i64 a0.f1], 40⟩]) (by kernel_rfl) ?_
      refine O.q (v := .bool false) (some 9) (Qu.eqv (u := .bool (decide (a0.f0 < a1.f0))) (v := .bool false) (0, 0) [] (by kernel_rfl) (congrArg Value.bool hc1)) (by kernel_rfl) ?_
      refine O.pure 5 [(1, 0), (0, 0)] [2, 3, 10, 12, 14] [p0_0, 0, p0_1, 0] (fr' := [(2, .pointer (some ⟨p0_0, 0, none⟩)), (3, .pointer (some ⟨p0_1, 0, none⟩)), (10, .bool false), (12, .int .i64 a0.f0), (14, .int .i64 a1.f0)]) (bx' := [⟨p0_1, [.int .i64 a1.f0, .int .i64 a1.f1], 40⟩, ⟨p0_0, [.int .i64 a0.f0, .int .i64 a0.f1], 40⟩]) (by kernel_rfl) ?_
      refine O.q (v := .bool false) (some 15) (Qu.eqv (u := .bool (a0.f0 == a1.f0)) (v := .bool false) (0, 0) [] (by kernel_rfl) (congrArg Value.bool hc2)) (by kernel_rfl) ?_
      refine O.pure 9 [] [4] [] (fr' := [(4, .bool false)]) (bx' := [⟨p0_1, [.int .i64 a1.f0, .int .i64 a1.f1], 40⟩, ⟨p0_0, [.int .i64 a0.f0, .int .i64 a0.f1], 40⟩]) (by kernel_rfl) ?_
      refine O.nil (by kernel_rfl) ?_
      obtain rfl := Option.some.inj H
      exact J.doneS [] [] [] [] [] () (vs := [.bool false]) (by kernel_rfl) (by kernel_rfl) (by kernel_rfl) (by kernel_rfl) (by kernel_rfl) (by decide)
/-! ### haywain/box.sorted[haywain/api.Msg]: function 24 -/
def api_Msg_ahead.l2 (K : Nat) : Nat → ((List S40) × (List S40) × (List S40)) → Option (List S40)
  | 0, _ => none
  | k + 1, s2 => cond (decide ((s2.1.length : Int) > 0)) (cond (decide ((s2.2.1.length : Int) > 0)) ((idxO s2.2.1 0).bind fun x7_2 => (idxO s2.1 0).bind fun x7_5 => (box_ahead.f K x7_2 x7_5).bind fun x7_7 => cond x7_7 ((idxO s2.2.1 0).bind fun x8_2 => (appO 16 s2.2.2 ([x8_2] : List S40)).bind fun y8_5 => (cutO s2.2.1 1 (s2.2.1.length : Int)).bind fun y8_7 => api_Msg_ahead.l2 K k (s2.1, (cutL s2.2.1 ((1 : Int).toNat) (((s2.2.1.length : Int) : Int).toNat)), (s2.2.2 ++ ([x8_2] : List S40)))) ((idxO s2.1 0).bind fun x9_2 => (appO 16 s2.2.2 ([x9_2] : List S40)).bind fun y9_5 => (cutO s2.1 1 (s2.1.length : Int)).bind fun y9_7 => api_Msg_ahead.l2 K k ((cutL s2.1 ((1 : Int).toNat) (((s2.1.length : Int) : Int).toNat)), s2.2.1, (s2.2.2 ++ ([x9_2] : List S40))))) ((appO 16 s2.2.2 s2.1).bind fun y10_2 => (appO 16 (s2.2.2 ++ s2.1) s2.2.1).bind fun y10_4 => some (((s2.2.2 ++ s2.1) ++ s2.2.1)))) ((appO 16 s2.2.2 s2.1).bind fun y10_2 => (appO 16 (s2.2.2 ++ s2.1) s2.2.1).bind fun y10_4 => some (((s2.2.2 ++ s2.1) ++ s2.2.1)))
def api_Msg_ahead.r (K : Nat) : Nat → (List S40) → Option (List S40)
  | 0, _ => none
  | k + 1, a0 => cond (decide ((a0.length : Int) < 2)) ((appO 16 ([] : List S40) a0).bind fun y2_2 => some ((([] : List S40) ++ a0))) ((divO .i64 (a0.length : Int) 2).bind fun z3_2 => (cutO a0 0 (IntKind.wrap .i64 ((a0.length : Int).tdiv 2))).bind fun y4_2 => (api_Msg_ahead.r K k (cutL a0 ((0 : Int).toNat) (((IntKind.wrap .i64 ((a0.length : Int).tdiv 2)) : Int).toNat))).bind fun x4_4 => (cutO a0 (IntKind.wrap .i64 ((a0.length : Int).tdiv 2)) (a0.length : Int)).bind fun y4_7 => (api_Msg_ahead.r K k (cutL a0 (((IntKind.wrap .i64 ((a0.length : Int).tdiv 2)) : Int).toNat) (((a0.length : Int) : Int).toNat))).bind fun x4_9 => (makO 16 (a0.length : Int)).bind fun z5_2 => api_Msg_ahead.l2 K K (x4_4, x4_9, ([] : List S40)))
def api_Msg_ahead.f (K : Nat) (a0 : List S40) : Option (List S40) := api_Msg_ahead.r K K a0
set_option maxRecDepth 100000 in
set_option maxHeartbeats 1000000 in
theorem api_Msg_ahead.con_r (K : Nat) : ∀ (k : Nat) (a0 : List S40) (h0 : Hd) (r : (List S40)) (X : Nat → Nat → Prop) (w : World) (hS : St X w [] [] [] [] [Rd kd40 h0.1 h0.2 a0] w) (H : api_Msg_ahead.r K k a0 = some r), Cn Try.prog 24 [.slice h0.1 a0.length h0.2, .func (.func 25) #[] #[]] X w [] (fun i : Hd => .slice i.1 r.length i.2) (fun i => []) (fun i => [mkRow kd40 40 (.slice i.1 r.length i.2) r]) (fun i => []) := by
  intro k
  induction k with
  | zero => intro a0 h0 r X w hS H; simp [api_Msg_ahead.r] at H
  | succ k ih =>
    intro a0 h0 r X w hS H
    refine Cn.of Try.func24 (by kernel_rfl) hS ?_
    unfold api_Msg_ahead.r at H
    refine J.seq (by kernel_rfl) ?_
    refine J.region (by kernel_rfl) ?_
    refine O.pure 1 [] [0, 1] [] (fr' := [(0, .slice h0.1 a0.length h0.2), (1, .func (.func 25) #[] #[])]) (bx' := []) (by kernel_rfl) ?_
    refine O.nil (by kernel_rfl) ?_
    refine J.seq (by kernel_rfl) ?_
    refine J.seq (by kernel_rfl) ?_
    refine J.region (by kernel_rfl) ?_
    refine O.pure 3 [] [0, 1, 11] [] (fr' := [(0, .slice h0.1 a0.length h0.2), (1, .func (.func 25) #[] #[]), (11, .bool (decide ((a0.length : Int) < 2)))]) (bx' := []) (by kernel_rfl) ?_
    refine O.nil (by kernel_rfl) ?_
    rcases condE H with ⟨hc1, H⟩ | ⟨hc1, H⟩
    · refine J.condT (x := .tmp 11) (t := (decide ((a0.length : Int) < 2))) (by kernel_rfl) (by kernel_rfl) hc1 ?_
      refine J.seq (by kernel_rfl) ?_
      obtain ⟨y2_2, hy2_2, H⟩ := bindE H
      have hy2_2a := (appE hy2_2).1
      refine J.region (by kernel_rfl) ?_
      refine O.e (some 12) (Ev.lit (t := 22) (len := 0) (parts := #[]) (ps := []) (cs := []) (e := 40) kd40 ([] : List S40) (by kernel_rfl) (by kernel_rfl) (by kernel_rfl) (by kernel_rfl) (by kernel_rfl) (by decide) (fun w' hφ => (Els.nil _ _ _))) (by kernel_rfl) (fun p2_0 => ?_)
      refine O.pure 1 [] [12, 13] [] (fr' := [(12, .slice ((some ⟨p2_0, 0, none⟩, 0) : Hd).1 ([] : List S40).length ((some ⟨p2_0, 0, none⟩, 0) : Hd).2), (13, .slice h0.1 a0.length h0.2)]) (bx' := []) (by kernel_rfl) ?_
      refine O.e (some 14) (Ev.appSl (d := kd40) (ys := a0) (A := h0.1) (c := h0.2) (x := .tmp 12) (y := .tmp 13) (t := 22) (bytes := 16) 0 (by kernel_rfl) (by kernel_rfl) (by kernel_rfl) rfl (by kernel_rfl) (by decide) hy2_2a) (by kernel_rfl) (fun p2_2 => ?_)
      refine O.pure 1 [] [4] [] (fr' := [(4, .slice p2_2.1 (([] : List S40) ++ a0).length p2_2.2)]) (bx' := []) (by kernel_rfl) ?_
      refine O.nil (by kernel_rfl) ?_
      obtain rfl := Option.some.inj H
      exact J.doneS [] [] [] [] [0] p2_2 (vs := [.slice p2_2.1 (([] : List S40) ++ a0).length p2_2.2]) (by kernel_rfl) (by kernel_rfl) (by kernel_rfl) (by kernel_rfl) (by kernel_rfl) (by decide)
    · refine J.condF (x := .tmp 11) (t := (decide ((a0.length : Int) < 2))) (by kernel_rfl) (by kernel_rfl) hc1 ?_
      refine J.skip (by kernel_rfl) ?_
      refine J.seq (by kernel_rfl) ?_
      obtain ⟨z3_2, hz3_2, H⟩ := bindE H
      have hz3_2a := (divE hz3_2).1
      refine J.region (by kernel_rfl) ?_
      refine O.pure 2 [] [0, 1, 16] [] (fr' := [(0, .slice h0.1 a0.length h0.2), (1, .func (.func 25) #[] #[]), (16, .int .i64 (a0.length : Int))]) (bx' := []) (by kernel_rfl) ?_
      refine O.q (v := .int .i64 (IntKind.wrap .i64 ((a0.length : Int).tdiv 2))) (some 17) (Qu.div (t := 3) (t' := 3) (x := .tmp 16) (y := .const (.int .i64 2)) (a := (a0.length : Int)) (b := 2) (by kernel_rfl) (by kernel_rfl) (by kernel_rfl) hz3_2a) (by kernel_rfl) ?_
      refine O.pure 1 [] [0, 1, 5] [] (fr' := [(0, .slice h0.1 a0.length h0.2), (1, .func (.func 25) #[] #[]), (5, .int .i64 (IntKind.wrap .i64 ((a0.length : Int).tdiv 2)))]) (bx' := []) (by kernel_rfl) ?_
      refine O.nil (by kernel_rfl) ?_
      refine J.seq (by kernel_rfl) ?_
      obtain ⟨y4_2, hy4_2, H⟩ := bindE H
      obtain ⟨hy4_2a, hy4_2b, hy4_2c, -⟩ := cutE hy4_2
      obtain ⟨x4_4, hx4_4, H⟩ := bindE H
      obtain ⟨y4_7, hy4_7, H⟩ := bindE H
      obtain ⟨hy4_7a, hy4_7b, hy4_7c, -⟩ := cutE hy4_7
      obtain ⟨x4_9, hx4_9, H⟩ := bindE H
      refine J.cutAt (γ := Hd × Hd × Hd × Hd) (fun q_ => [(0, .slice h0.1 a0.length h0.2), (1, .func (.func 25) #[] #[]), (6, .slice q_.2.1.1 x4_4.length q_.2.1.2), (7, .slice q_.2.2.2.1 x4_9.length q_.2.2.2.2)]) (fun q_ => St X w [] [] [mkRow kd40 40 (.slice q_.2.2.2.1 x4_9.length q_.2.2.2.2) x4_9, mkRow kd40 40 (.slice q_.2.1.1 x4_4.length q_.2.1.2) x4_4] [] [Rd kd40 q_.2.2.1.1 q_.2.2.1.2 (cutL a0 (((IntKind.wrap .i64 ((a0.length : Int).tdiv 2)) : Int).toNat) (((a0.length : Int) : Int).toNat)), Rd kd40 q_.1.1 q_.1.2 (cutL a0 ((0 : Int).toNat) (((IntKind.wrap .i64 ((a0.length : Int).tdiv 2)) : Int).toNat)), Rd kd40 h0.1 h0.2 a0]) (fun q_ => ?_) (fun hk_ => ?_)
      · obtain ⟨p4_2, p4_4, p4_7, p4_9⟩ := q_
        refine J.seq (by kernel_rfl) ?_
        obtain ⟨z5_2, hz5_2, H⟩ := bindE H
        obtain ⟨hz5_2a, hz5_2b⟩ := makE hz5_2
        refine J.region (by kernel_rfl) ?_
        refine O.pure 2 [] [1, 6, 7, 29] [] (fr' := [(1, .func (.func 25) #[] #[]), (6, .slice p4_4.1 x4_4.length p4_4.2), (7, .slice p4_9.1 x4_9.length p4_9.2), (29, .int .i64 (a0.length : Int))]) (bx' := []) (by kernel_rfl) ?_
        refine O.e (some 30) (Ev.make0 (t := 22) (e := 40) (d := kd40) (x := .const (.int .i64 0)) (y := .tmp 29) (kl := .i64) (kc := .i64) (m := (a0.length : Int)) (bytes := 16) (by kernel_rfl) (by kernel_rfl) (by kernel_rfl) (by kernel_rfl) (by decide) hz5_2a hz5_2b) (by kernel_rfl) (fun p5_2 => ?_)
        refine O.pure 1 [] [1, 6, 7, 8] [] (fr' := [(1, .func (.func 25) #[] #[]), (6, .slice p4_4.1 x4_4.length p4_4.2), (7, .slice p4_9.1 x4_9.length p4_9.2), (8, .slice ((some ⟨p5_2, 0, none⟩, (a0.length : Int).toNat) : Hd).1 ([] : List S40).length ((some ⟨p5_2, 0, none⟩, (a0.length : Int).toNat) : Hd).2)]) (bx' := []) (by kernel_rfl) ?_
        refine O.nil (by kernel_rfl) ?_
        refine J.seq (by kernel_rfl) ?_
        refine J.block (id := 0) (by kernel_rfl) ?_
        refine J.loopI (σ := (List S40) × (List S40) × (List S40)) (γ := Hd × Hd × Hd) (f := fun m_ s_ => api_Msg_ahead.l2 K m_ s_) (fun s2 g2 => [(1, .func (.func 25) #[] #[]), (6, .slice g2.1.1 s2.1.length g2.1.2), (7, .slice g2.2.1.1 s2.2.1.length g2.2.1.2), (8, .slice g2.2.2.1 s2.2.2.length g2.2.2.2)]) (fun s2 g2 => St X w [] [] [mkRow kd40 40 (.slice g2.2.2.1 s2.2.2.length g2.2.2.2) s2.2.2] [] [Rd kd40 g2.1.1 g2.1.2 s2.1, Rd kd40 g2.2.1.1 g2.2.1.2 s2.2.1, Rd kd40 h0.1 h0.2 a0]) K (x4_4, x4_9, ([] : List S40)) (p4_4, p4_9, ((some ⟨p5_2, 0, none⟩, (a0.length : Int).toNat) : Hd)) (by kernel_rfl) H (fun _ => rfl) (fun m_ s2 H ih2 g2 => ?_) (fun h_ => ?_)
        · unfold api_Msg_ahead.l2 at H
          refine J.seq (by kernel_rfl) ?_
          refine J.seq (by kernel_rfl) ?_
          rcases condE H with ⟨hc9, H⟩ | ⟨hc9, H⟩
          · refine J.region (by kernel_rfl) ?_
            refine O.pure 2 [] [1, 6, 7, 8, 32] [] (fr' := [(1, .func (.func 25) #[] #[]), (6, .slice g2.1.1 s2.1.length g2.1.2), (7, .slice g2.2.1.1 s2.2.1.length g2.2.1.2), (8, .slice g2.2.2.1 s2.2.2.length g2.2.2.2), (32, .int .i64 (s2.1.length : Int))]) (bx' := []) (by kernel_rfl) ?_
            refine O.q (v := .bool true) (some 33) (Qu.eqv (u := .bool (decide ((s2.1.length : Int) > 0))) (v := .bool true) (0, 0) [] (by kernel_rfl) (congrArg Value.bool hc9)) (by kernel_rfl) ?_
            refine O.pure 5 [] [1, 6, 7, 8, 35, 36, 37, 38] [] (fr' := [(1, .func (.func 25) #[] #[]), (6, .slice g2.1.1 s2.1.length g2.1.2), (7, .slice g2.2.1.1 s2.2.1.length g2.2.1.2), (8, .slice g2.2.2.1 s2.2.2.length g2.2.2.2), (35, .slice g2.2.1.1 s2.2.1.length g2.2.1.2), (36, .int .i64 (s2.2.1.length : Int)), (37, .bool (decide ((s2.2.1.length : Int) > 0))), (38, .bool (decide ((s2.2.1.length : Int) > 0)))]) (bx' := []) (by kernel_rfl) ?_
            refine O.nil (by kernel_rfl) ?_
            rcases condE H with ⟨hc10, H⟩ | ⟨hc10, H⟩
            · refine J.condT (x := .tmp 38) (t := (decide ((s2.2.1.length : Int) > 0))) (by kernel_rfl) (by kernel_rfl) hc10 ?_
              refine J.skip (by kernel_rfl) ?_
              refine J.block (id := 1) (by kernel_rfl) ?_
              refine J.seq (by kernel_rfl) ?_
              obtain ⟨x7_2, hx7_2, H⟩ := bindE H
              obtain ⟨hx7_2a, hx7_2⟩ := idxE hx7_2
              obtain ⟨x7_5, hx7_5, H⟩ := bindE H
              obtain ⟨hx7_5a, hx7_5⟩ := idxE hx7_5
              obtain ⟨x7_7, hx7_7, H⟩ := bindE H
              refine J.open (d := kd40) (h := g2.2.1) (i := 0) 1 rfl hx7_2 (op40 _) (fun p7_2 hp7_2A => ?_)
              refine J.open (d := kd40) (h := g2.1) (i := 0) 0 rfl hx7_5 (op40 _) (fun p7_5 hp7_5A => ?_)
              refine J.drawS (by kernel_rfl) [(0, some 39, .func (.func 25) #[] #[]), (1, some 40, .slice g2.2.1.1 s2.2.1.length g2.2.1.2), (3, some 42, .agg #[.int .i64 x7_2.f0, .int .i64 x7_2.f1]), (4, some 43, .slice g2.1.1 s2.1.length g2.1.2), (6, some 45, .agg #[.int .i64 x7_5.f0, .int .i64 x7_5.f1]), (2, some 41, .pointer (some ⟨p7_2.1, p7_2.2.1 + (0 : Int).toNat * 2, none⟩)), (5, some 44, .pointer (some ⟨p7_5.1, p7_5.2.1 + (0 : Int).toNat * 2, none⟩))] ([0, 1, 3, 4, 6] ++ [2, 5]) (by kernel_rfl) ?_
              refine D.mid (cs := [7]) [0, 1, 3, 4, 6] [2, 5] [(1, 0), (0, 0)] [p7_2.1, p7_2.2.1 + (0 : Int).toNat * 2, p7_5.1, p7_5.2.1 + (0 : Int).toNat * 2] (by kernel_rfl) (by kernel_rfl) (⟨QuAt.mk (v := .pointer (some ⟨p7_2.1, p7_2.2.1 + (0 : Int).toNat * 2, none⟩)) (some 41) (by kernel_rfl) (by kernel_rfl) (Qu.idx (t := 22) (x := .tmp 40) (y := .const (.int .i64 0)) (c := g2.2.1.2) (kk := .i64) (sz := 2) (by kernel_rfl) (by kernel_rfl) (by kernel_rfl) (by kernel_rfl) hx7_2a (idx_lt hx7_2) hp7_2A), QuAt.mk (v := .pointer (some ⟨p7_5.1, p7_5.2.1 + (0 : Int).toNat * 2, none⟩)) (some 44) (by kernel_rfl) (by kernel_rfl) (Qu.idx (t := 22) (x := .tmp 43) (y := .const (.int .i64 0)) (c := g2.1.2) (kk := .i64) (sz := 2) (by kernel_rfl) (by kernel_rfl) (by kernel_rfl) (by kernel_rfl) hx7_5a (idx_lt hx7_5) hp7_5A), trivial⟩) (by kernel_rfl) ⟨?_, trivial⟩
              refine EvStep.mk (some 46) (new := fun _ => []) ([1, 4] ++ [2, 5]) (by kernel_rfl) (Ev.callF (g := 25) (caps := []) (vs := [.agg #[.int .i64 x7_2.f0, .int .i64 x7_2.f1], .agg #[.int .i64 x7_5.f0, .int .i64 x7_5.f1]]) (xs := [.tmp 42, .tmp 45]) [] (by kernel_rfl) (by kernel_rfl) (fun w hS => box_ahead.con K x7_2 x7_5  _ _ w hS hx7_7)) (fun _ => by kernel_rfl) (fun _ => ?_)
              refine D.fin (fr' := [(1, .func (.func 25) #[] #[]), (6, .slice g2.1.1 s2.1.length g2.1.2), (7, .slice g2.2.1.1 s2.2.1.length g2.2.1.2), (8, .slice g2.2.2.1 s2.2.2.length g2.2.2.2), (35, .slice g2.2.1.1 s2.2.1.length g2.2.1.2), (36, .int .i64 (s2.2.1.length : Int)), (37, .bool (decide ((s2.2.1.length : Int) > 0))), (46, .bool x7_7)]) [1, 4] [2, 5] [] [] [1, 6, 7, 8, 35, 36, 37, 46] (by kernel_rfl) (by kernel_rfl) (⟨QuAt.mk (v := .pointer (some ⟨p7_2.1, p7_2.2.1 + (0 : Int).toNat * 2, none⟩)) (some 41) (by kernel_rfl) (by kernel_rfl) (Qu.idx (t := 22) (x := .tmp 40) (y := .const (.int .i64 0)) (c := g2.2.1.2) (kk := .i64) (sz := 2) (by kernel_rfl) (by kernel_rfl) (by kernel_rfl) (by kernel_rfl) hx7_2a (idx_lt hx7_2) hp7_2A), QuAt.mk (v := .pointer (some ⟨p7_5.1, p7_5.2.1 + (0 : Int).toNat * 2, none⟩)) (some 44) (by kernel_rfl) (by kernel_rfl) (Qu.idx (t := 22) (x := .tmp 43) (y := .const (.int .i64 0)) (c := g2.1.2) (kk := .i64) (sz := 2) (by kernel_rfl) (by kernel_rfl) (by kernel_rfl) (by kernel_rfl) hx7_5a (idx_lt hx7_5) hp7_5A), trivial⟩) (by kernel_rfl) ?_
              rcases condE H with ⟨hc11, H⟩ | ⟨hc11, H⟩
              · refine J.condT (x := .tmp 46) (t := x7_7) (by kernel_rfl) (by kernel_rfl) hc11 ?_
                obtain ⟨x8_2, hx8_2, H⟩ := bindE H
                obtain ⟨hx8_2a, hx8_2⟩ := idxE hx8_2
                obtain ⟨y8_5, hy8_5, H⟩ := bindE H
                have hy8_5a := (appE hy8_5).1
                obtain ⟨y8_7, hy8_7, H⟩ := bindE H
                obtain ⟨hy8_7a, hy8_7b, hy8_7c, -⟩ := cutE hy8_7
                refine J.open (d := kd40) (h := g2.2.1) (i := 0) 1 rfl hx8_2 (op40 _) (fun p8_2 hp8_2A => ?_)
                refine J.cutAt (γ := Nat × Hd × Hd) (fun q_ => [(1, .func (.func 25) #[] #[]), (6, .slice g2.1.1 s2.1.length g2.1.2), (7, .slice q_.2.2.1 (cutL s2.2.1 ((1 : Int).toNat) (((s2.2.1.length : Int) : Int).toNat)).length q_.2.2.2), (8, .slice q_.2.1.1 (s2.2.2 ++ ([x8_2] : List S40)).length q_.2.1.2), (35, .slice g2.2.1.1 s2.2.1.length g2.2.1.2), (36, .int .i64 (s2.2.1.length : Int)), (37, .bool (decide ((s2.2.1.length : Int) > 0)))]) (fun q_ => St X w [] [] [mkRow kd40 40 (.slice q_.2.1.1 (s2.2.2 ++ ([x8_2] : List S40)).length q_.2.1.2) (s2.2.2 ++ ([x8_2] : List S40))] [] [Rd kd40 q_.2.2.1 q_.2.2.2 (cutL s2.2.1 ((1 : Int).toNat) (((s2.2.1.length : Int) : Int).toNat)), Rd kd40 g2.1.1 g2.1.2 s2.1, Rd kd40 g2.2.1.1 g2.2.1.2 s2.2.1, Rd kd40 h0.1 h0.2 a0]) (fun q_ => ?_) (fun hk_ => ?_)
                · obtain ⟨p8_4, p8_5, p8_7⟩ := q_
                  refine J.out ?_
                  exact J.conv2 [1, 6, 7, 8] [1, 0, 3] [] [0] (by kernel_rfl) (by kernel_rfl) (by kernel_rfl) (by kernel_rfl) (by decide) (ih2 (s2.1, (cutL s2.2.1 ((1 : Int).toNat) (((s2.2.1.length : Int) : Int).toNat)), (s2.2.2 ++ ([x8_2] : List S40))) (g2.1, p8_7, p8_5) H)
                · refine J.drawS (by kernel_rfl) [(0, some 47, .slice g2.2.2.1 s2.2.2.length g2.2.2.2), (1, some 48, .slice g2.2.1.1 s2.2.1.length g2.2.1.2), (3, some 50, .agg #[.int .i64 x8_2.f0, .int .i64 x8_2.f1]), (6, some 53, .slice g2.2.1.1 s2.2.1.length g2.2.1.2), (2, some 49, .pointer (some ⟨p8_2.1, p8_2.2.1 + (0 : Int).toNat * 2, none⟩))] ([0, 1, 3, 6] ++ [2]) (by kernel_rfl) ?_
                  refine D.mid (cs := [4, 7]) [0, 1, 3, 6] [2] [(0, 0)] [p8_2.1, p8_2.2.1 + (0 : Int).toNat * 2] (by kernel_rfl) (by kernel_rfl) (⟨QuAt.mk (v := .pointer (some ⟨p8_2.1, p8_2.2.1 + (0 : Int).toNat * 2, none⟩)) (some 49) (by kernel_rfl) (by kernel_rfl) (Qu.idx (t := 22) (x := .tmp 48) (y := .const (.int .i64 0)) (c := g2.2.1.2) (kk := .i64) (sz := 2) (by kernel_rfl) (by kernel_rfl) (by kernel_rfl) (by kernel_rfl) hx8_2a (idx_lt hx8_2) hp8_2A), trivial⟩) (by kernel_rfl) ⟨?_, ?_, trivial⟩
                  · refine EvStep.mk (some 51) (new := fun p8_4 => []) ([0, 1, 6] ++ [2]) (by kernel_rfl) (Ev.lit (t := 22) (len := 1) (parts := #[(0, .tmp 50)]) (ps := [(0, .agg #[.int .i64 x8_2.f0, .int .i64 x8_2.f1])]) (cs := [.int .i64 x8_2.f0, .int .i64 x8_2.f1]) (e := 40) kd40 ([x8_2] : List S40) (by kernel_rfl) (by kernel_rfl) (by kernel_rfl) (by kernel_rfl) (by kernel_rfl) (by decide) (fun w' hφ => (Els.cons (c := [.int .i64 x8_2.f0, .int .i64 x8_2.f1]) (rfl) (Els.nil _ _ _)))) (fun p8_4 => by kernel_rfl) (fun p8_4 => ?_)
                    refine D.mid (cs := [5, 7]) [0, 1, 6] [2] [] [] (by kernel_rfl) (by kernel_rfl) (⟨QuAt.mk (v := .pointer (some ⟨p8_2.1, p8_2.2.1 + (0 : Int).toNat * 2, none⟩)) (some 49) (by kernel_rfl) (by kernel_rfl) (Qu.idx (t := 22) (x := .tmp 48) (y := .const (.int .i64 0)) (c := g2.2.1.2) (kk := .i64) (sz := 2) (by kernel_rfl) (by kernel_rfl) (by kernel_rfl) (by kernel_rfl) hx8_2a (idx_lt hx8_2) hp8_2A), trivial⟩) (by kernel_rfl) ⟨?_, ?_, trivial⟩
                    · refine EvStep.mk (some 52) (new := fun p8_5 => [(8, some 8, .slice p8_5.1 (s2.2.2 ++ ([x8_2] : List S40)).length p8_5.2)]) ([1, 6, 8] ++ [2]) (by kernel_rfl) (Ev.appLit (x := .tmp 47) (y := .tmp 51) (t := 22) (bytes := 16) (by kernel_rfl) (by kernel_rfl) (by kernel_rfl) (by kernel_rfl) (by kernel_rfl) (by decide) hy8_5a) (fun p8_5 => by kernel_rfl) (fun p8_5 => ?_)
                      refine D.mid (cs := [7]) [1, 6, 8] [2] [] [] (by kernel_rfl) (by kernel_rfl) (⟨QuAt.mk (v := .pointer (some ⟨p8_2.1, p8_2.2.1 + (0 : Int).toNat * 2, none⟩)) (some 49) (by kernel_rfl) (by kernel_rfl) (Qu.idx (t := 22) (x := .tmp 48) (y := .const (.int .i64 0)) (c := g2.2.1.2) (kk := .i64) (sz := 2) (by kernel_rfl) (by kernel_rfl) (by kernel_rfl) (by kernel_rfl) hx8_2a (idx_lt hx8_2) hp8_2A), trivial⟩) (by kernel_rfl) ⟨?_, trivial⟩
                      refine EvStep.mk (some 54) (new := fun p8_7 => [(9, some 7, .slice p8_7.1 (cutL s2.2.1 ((1 : Int).toNat) (((s2.2.1.length : Int) : Int).toNat)).length p8_7.2)]) ([1, 8, 9] ++ [2]) (by kernel_rfl) (Ev.cut (d := kd40) (xs := s2.2.1) (t := 22) (x := .tmp 53) (lo := (some (.const (.int .i64 1)))) (hi := none) (vlo := (some (.int .i64 1))) (vhi := none) (A := g2.2.1.1) (c := g2.2.1.2) (l := (1 : Int).toNat) (h := ((s2.2.1.length : Int) : Int).toNat) 1 (by kernel_rfl) (by kernel_rfl) (by kernel_rfl) (by kernel_rfl) (by kernel_rfl) (Bd.val _ _ _ (by omega)) (Bd.dflt _) (by omega) (by omega) rfl) (fun p8_7 => by kernel_rfl) (fun p8_7 => ?_)
                      refine D.fin (fr' := [(1, .func (.func 25) #[] #[]), (6, .slice g2.1.1 s2.1.length g2.1.2), (7, .slice p8_7.1 (cutL s2.2.1 ((1 : Int).toNat) (((s2.2.1.length : Int) : Int).toNat)).length p8_7.2), (8, .slice p8_5.1 (s2.2.2 ++ ([x8_2] : List S40)).length p8_5.2), (35, .slice g2.2.1.1 s2.2.1.length g2.2.1.2), (36, .int .i64 (s2.2.1.length : Int)), (37, .bool (decide ((s2.2.1.length : Int) > 0)))]) [1, 8, 9] [2] [] [] [1, 6, 7, 8, 35, 36, 37] (by kernel_rfl) (by kernel_rfl) (⟨QuAt.mk (v := .pointer (some ⟨p8_2.1, p8_2.2.1 + (0 : Int).toNat * 2, none⟩)) (some 49) (by kernel_rfl) (by kernel_rfl) (Qu.idx (t := 22) (x := .tmp 48) (y := .const (.int .i64 0)) (c := g2.2.1.2) (kk := .i64) (sz := 2) (by kernel_rfl) (by kernel_rfl) (by kernel_rfl) (by kernel_rfl) hx8_2a (idx_lt hx8_2) hp8_2A), trivial⟩) (by kernel_rfl) ?_
                      exact J.conv2 [1, 6, 7, 8, 35, 36, 37] [0, 1, 2, 3] [] [0] (by kernel_rfl) (by kernel_rfl) (by kernel_rfl) (by kernel_rfl) (by decide) (hk_ (p8_4, p8_5, p8_7))
                    · refine EvStep.mk (some 54) (new := fun p8_7 => []) ([0, 1] ++ [2]) (by kernel_rfl) (Ev.cut (d := kd40) (xs := s2.2.1) (t := 22) (x := .tmp 53) (lo := (some (.const (.int .i64 1)))) (hi := none) (vlo := (some (.int .i64 1))) (vhi := none) (A := g2.2.1.1) (c := g2.2.1.2) (l := (1 : Int).toNat) (h := ((s2.2.1.length : Int) : Int).toNat) 1 (by kernel_rfl) (by kernel_rfl) (by kernel_rfl) (by kernel_rfl) (by kernel_rfl) (Bd.val _ _ _ (by omega)) (Bd.dflt _) (by omega) (by omega) rfl) (fun p8_7 => by kernel_rfl) (fun p8_7 => ?_)
                      refine D.mid (cs := [5]) [0, 1] [2] [] [] (by kernel_rfl) (by kernel_rfl) (⟨QuAt.mk (v := .pointer (some ⟨p8_2.1, p8_2.2.1 + (0 : Int).toNat * 2, none⟩)) (some 49) (by kernel_rfl) (by kernel_rfl) (Qu.idx (t := 22) (x := .tmp 48) (y := .const (.int .i64 0)) (c := g2.2.1.2) (kk := .i64) (sz := 2) (by kernel_rfl) (by kernel_rfl) (by kernel_rfl) (by kernel_rfl) hx8_2a (idx_lt hx8_2) hp8_2A), trivial⟩) (by kernel_rfl) ⟨?_, trivial⟩
                      refine EvStep.mk (some 52) (new := fun p8_5 => [(8, some 8, .slice p8_5.1 (s2.2.2 ++ ([x8_2] : List S40)).length p8_5.2), (9, some 7, .slice p8_7.1 (cutL s2.2.1 ((1 : Int).toNat) (((s2.2.1.length : Int) : Int).toNat)).length p8_7.2)]) ([1, 8, 9] ++ [2]) (by kernel_rfl) (Ev.appLit (x := .tmp 47) (y := .tmp 51) (t := 22) (bytes := 16) (by kernel_rfl) (by kernel_rfl) (by kernel_rfl) (by kernel_rfl) (by kernel_rfl) (by decide) hy8_5a) (fun p8_5 => by kernel_rfl) (fun p8_5 => ?_)
                      refine D.fin (fr' := [(1, .func (.func 25) #[] #[]), (6, .slice g2.1.1 s2.1.length g2.1.2), (7, .slice p8_7.1 (cutL s2.2.1 ((1 : Int).toNat) (((s2.2.1.length : Int) : Int).toNat)).length p8_7.2), (8, .slice p8_5.1 (s2.2.2 ++ ([x8_2] : List S40)).length p8_5.2), (35, .slice g2.2.1.1 s2.2.1.length g2.2.1.2), (36, .int .i64 (s2.2.1.length : Int)), (37, .bool (decide ((s2.2.1.length : Int) > 0)))]) [1, 8, 9] [2] [] [] [1, 6, 7, 8, 35, 36, 37] (by kernel_rfl) (by kernel_rfl) (⟨QuAt.mk (v := .pointer (some ⟨p8_2.1, p8_2.2.1 + (0 : Int).toNat * 2, none⟩)) (some 49) (by kernel_rfl) (by kernel_rfl) (Qu.idx (t := 22) (x := .tmp 48) (y := .const (.int .i64 0)) (c := g2.2.1.2) (kk := .i64) (sz := 2) (by kernel_rfl) (by kernel_rfl) (by kernel_rfl) (by kernel_rfl) hx8_2a (idx_lt hx8_2) hp8_2A), trivial⟩) (by kernel_rfl) ?_
                      exact J.conv2 [1, 6, 7, 8, 35, 36, 37] [0, 1, 2, 3] [] [0] (by kernel_rfl) (by kernel_rfl) (by kernel_rfl) (by kernel_rfl) (by decide) (hk_ (p8_4, p8_5, p8_7))
                  · refine EvStep.mk (some 54) (new := fun p8_7 => []) ([0, 1, 3] ++ [2]) (by kernel_rfl) (Ev.cut (d := kd40) (xs := s2.2.1) (t := 22) (x := .tmp 53) (lo := (some (.const (.int .i64 1)))) (hi := none) (vlo := (some (.int .i64 1))) (vhi := none) (A := g2.2.1.1) (c := g2.2.1.2) (l := (1 : Int).toNat) (h := ((s2.2.1.length : Int) : Int).toNat) 1 (by kernel_rfl) (by kernel_rfl) (by kernel_rfl) (by kernel_rfl) (by kernel_rfl) (Bd.val _ _ _ (by omega)) (Bd.dflt _) (by omega) (by omega) rfl) (fun p8_7 => by kernel_rfl) (fun p8_7 => ?_)
                    refine D.mid (cs := [4]) [0, 1, 3] [2] [(0, 0)] [p8_2.1, p8_2.2.1 + (0 : Int).toNat * 2] (by kernel_rfl) (by kernel_rfl) (⟨QuAt.mk (v := .pointer (some ⟨p8_2.1, p8_2.2.1 + (0 : Int).toNat * 2, none⟩)) (some 49) (by kernel_rfl) (by kernel_rfl) (Qu.idx (t := 22) (x := .tmp 48) (y := .const (.int .i64 0)) (c := g2.2.1.2) (kk := .i64) (sz := 2) (by kernel_rfl) (by kernel_rfl) (by kernel_rfl) (by kernel_rfl) hx8_2a (idx_lt hx8_2) hp8_2A), trivial⟩) (by kernel_rfl) ⟨?_, trivial⟩
                    refine EvStep.mk (some 51) (new := fun p8_4 => []) ([0, 1] ++ [2]) (by kernel_rfl) (Ev.lit (t := 22) (len := 1) (parts := #[(0, .tmp 50)]) (ps := [(0, .agg #[.int .i64 x8_2.f0, .int .i64 x8_2.f1])]) (cs := [.int .i64 x8_2.f0, .int .i64 x8_2.f1]) (e := 40) kd40 ([x8_2] : List S40) (by kernel_rfl) (by kernel_rfl) (by kernel_rfl) (by kernel_rfl) (by kernel_rfl) (by decide) (fun w' hφ => (Els.cons (c := [.int .i64 x8_2.f0, .int .i64 x8_2.f1]) (rfl) (Els.nil _ _ _)))) (fun p8_4 => by kernel_rfl) (fun p8_4 => ?_)
                    refine D.mid (cs := [5]) [0, 1] [2] [] [] (by kernel_rfl) (by kernel_rfl) (⟨QuAt.mk (v := .pointer (some ⟨p8_2.1, p8_2.2.1 + (0 : Int).toNat * 2, none⟩)) (some 49) (by kernel_rfl) (by kernel_rfl) (Qu.idx (t := 22) (x := .tmp 48) (y := .const (.int .i64 0)) (c := g2.2.1.2) (kk := .i64) (sz := 2) (by kernel_rfl) (by kernel_rfl) (by kernel_rfl) (by kernel_rfl) hx8_2a (idx_lt hx8_2) hp8_2A), trivial⟩) (by kernel_rfl) ⟨?_, trivial⟩
                    refine EvStep.mk (some 52) (new := fun p8_5 => [(8, some 8, .slice p8_5.1 (s2.2.2 ++ ([x8_2] : List S40)).length p8_5.2), (9, some 7, .slice p8_7.1 (cutL s2.2.1 ((1 : Int).toNat) (((s2.2.1.length : Int) : Int).toNat)).length p8_7.2)]) ([1, 8, 9] ++ [2]) (by kernel_rfl) (Ev.appLit (x := .tmp 47) (y := .tmp 51) (t := 22) (bytes := 16) (by kernel_rfl) (by kernel_rfl) (by kernel_rfl) (by kernel_rfl) (by kernel_rfl) (by decide) hy8_5a) (fun p8_5 => by kernel_rfl) (fun p8_5 => ?_)
                    refine D.fin (fr' := [(1, .func (.func 25) #[] #[]), (6, .slice g2.1.1 s2.1.length g2.1.2), (7, .slice p8_7.1 (cutL s2.2.1 ((1 : Int).toNat) (((s2.2.1.length : Int) : Int).toNat)).length p8_7.2), (8, .slice p8_5.1 (s2.2.2 ++ ([x8_2] : List S40)).length p8_5.2), (35, .slice g2.2.1.1 s2.2.1.length g2.2.1.2), (36, .int .i64 (s2.2.1.length : Int)), (37, .bool (decide ((s2.2.1.length : Int) > 0)))]) [1, 8, 9] [2] [] [] [1, 6, 7, 8, 35, 36, 37] (by kernel_rfl) (by kernel_rfl) (⟨QuAt.mk (v := .pointer (some ⟨p8_2.1, p8_2.2.1 + (0 : Int).toNat * 2, none⟩)) (some 49) (by kernel_rfl) (by kernel_rfl) (Qu.idx (t := 22) (x := .tmp 48) (y := .const (.int .i64 0)) (c := g2.2.1.2) (kk := .i64) (sz := 2) (by kernel_rfl) (by kernel_rfl) (by kernel_rfl) (by kernel_rfl) hx8_2a (idx_lt hx8_2) hp8_2A), trivial⟩) (by kernel_rfl) ?_
                    exact J.conv2 [1, 6, 7, 8, 35, 36, 37] [0, 1, 2, 3] [] [0] (by kernel_rfl) (by kernel_rfl) (by kernel_rfl) (by kernel_rfl) (by decide) (hk_ (p8_4, p8_5, p8_7))
              · refine J.condF (x := .tmp 46) (t := x7_7) (by kernel_rfl) (by kernel_rfl) hc11 ?_
                obtain ⟨x9_2, hx9_2, H⟩ := bindE H
                obtain ⟨hx9_2a, hx9_2⟩ := idxE hx9_2
                obtain ⟨y9_5, hy9_5, H⟩ := bindE H
                have hy9_5a := (appE hy9_5).1
                obtain ⟨y9_7, hy9_7, H⟩ := bindE H
                obtain ⟨hy9_7a, hy9_7b, hy9_7c, -⟩ := cutE hy9_7
                refine J.open (d := kd40) (h := g2.1) (i := 0) 0 rfl hx9_2 (op40 _) (fun p9_2 hp9_2A => ?_)
                refine J.cutAt (γ := Nat × Hd × Hd) (fun q_ => [(1, .func (.func 25) #[] #[]), (6, .slice q_.2.2.1 (cutL s2.1 ((1 : Int).toNat) (((s2.1.length : Int) : Int).toNat)).length q_.2.2.2), (7, .slice g2.2.1.1 s2.2.1.length g2.2.1.2), (8, .slice q_.2.1.1 (s2.2.2 ++ ([x9_2] : List S40)).length q_.2.1.2), (35, .slice g2.2.1.1 s2.2.1.length g2.2.1.2), (36, .int .i64 (s2.2.1.length : Int)), (37, .bool (decide ((s2.2.1.length : Int) > 0)))]) (fun q_ => St X w [] [] [mkRow kd40 40 (.slice q_.2.1.1 (s2.2.2 ++ ([x9_2] : List S40)).length q_.2.1.2) (s2.2.2 ++ ([x9_2] : List S40))] [] [Rd kd40 q_.2.2.1 q_.2.2.2 (cutL s2.1 ((1 : Int).toNat) (((s2.1.length : Int) : Int).toNat)), Rd kd40 g2.1.1 g2.1.2 s2.1, Rd kd40 g2.2.1.1 g2.2.1.2 s2.2.1, Rd kd40 h0.1 h0.2 a0]) (fun q_ => ?_) (fun hk_ => ?_)
                · obtain ⟨p9_4, p9_5, p9_7⟩ := q_
                  refine J.out ?_
                  exact J.conv2 [1, 6, 7, 8] [0, 2, 3] [] [0] (by kernel_rfl) (by kernel_rfl) (by kernel_rfl) (by kernel_rfl) (by decide) (ih2 ((cutL s2.1 ((1 : Int).toNat) (((s2.1.length : Int) : Int).toNat)), s2.2.1, (s2.2.2 ++ ([x9_2] : List S40))) (p9_7, g2.2.1, p9_5) H)
                · refine J.drawS (by kernel_rfl) [(0, some 55, .slice g2.2.2.1 s2.2.2.length g2.2.2.2), (1, some 56, .slice g2.1.1 s2.1.length g2.1.2), (3, some 58, .agg #[.int .i64 x9_2.f0, .int .i64 x9_2.f1]), (6, some 61, .slice g2.1.1 s2.1.length g2.1.2), (2, some 57, .pointer (some ⟨p9_2.1, p9_2.2.1 + (0 : Int).toNat * 2, none⟩))] ([0, 1, 3, 6] ++ [2]) (by kernel_rfl) ?_
                  refine D.mid (cs := [4, 7]) [0, 1, 3, 6] [2] [(0, 0)] [p9_2.1, p9_2.2.1 + (0 : Int).toNat * 2] (by kernel_rfl) (by kernel_rfl) (⟨QuAt.mk (v := .pointer (some ⟨p9_2.1, p9_2.2.1 + (0 : Int).toNat * 2, none⟩)) (some 57) (by kernel_rfl) (by kernel_rfl) (Qu.idx (t := 22) (x := .tmp 56) (y := .const (.int .i64 0)) (c := g2.1.2) (kk := .i64) (sz := 2) (by kernel_rfl) (by kernel_rfl) (by kernel_rfl) (by kernel_rfl) hx9_2a (idx_lt hx9_2) hp9_2A), trivial⟩) (by kernel_rfl) ⟨?_, ?_, trivial⟩
                  · refine EvStep.mk (some 59) (new := fun p9_4 => []) ([0, 1, 6] ++ [2]) (by kernel_rfl) (Ev.lit (t := 22) (len := 1) (parts := #[(0, .tmp 58)]) (ps := [(0, .agg #[.int .i64 x9_2.f0, .int .i64 x9_2.f1])]) (cs := [.int .i64 x9_2.f0, .int .i64 x9_2.f1]) (e := 40) kd40 ([x9_2] : List S40) (by kernel_rfl) (by kernel_rfl) (by kernel_rfl) (by kernel_rfl) (by kernel_rfl) (by decide) (fun w' hφ => (Els.cons (c := [.int .i64 x9_2.f0, .int .i64 x9_2.f1]) (rfl) (Els.nil _ _ _)))) (fun p9_4 => by kernel_rfl) (fun p9_4 => ?_)
                    refine D.mid (cs := [5, 7]) [0, 1, 6] [2] [] [] (by kernel_rfl) (by kernel_rfl) (⟨QuAt.mk (v := .pointer (some ⟨p9_2.1, p9_2.2.1 + (0 : Int).toNat * 2, none⟩)) (some 57) (by kernel_rfl) (by kernel_rfl) (Qu.idx (t := 22) (x := .tmp 56) (y := .const (.int .i64 0)) (c := g2.1.2) (kk := .i64) (sz := 2) (by kernel_rfl) (by kernel_rfl) (by kernel_rfl) (by kernel_rfl) hx9_2a (idx_lt hx9_2) hp9_2A), trivial⟩) (by kernel_rfl) ⟨?_, ?_, trivial⟩
                    · refine EvStep.mk (some 60) (new := fun p9_5 => [(8, some 8, .slice p9_5.1 (s2.2.2 ++ ([x9_2] : List S40)).length p9_5.2)]) ([1, 6, 8] ++ [2]) (by kernel_rfl) (Ev.appLit (x := .tmp 55) (y := .tmp 59) (t := 22) (bytes := 16) (by kernel_rfl) (by kernel_rfl) (by kernel_rfl) (by kernel_rfl) (by kernel_rfl) (by decide) hy9_5a) (fun p9_5 => by kernel_rfl) (fun p9_5 => ?_)
                      refine D.mid (cs := [7]) [1, 6, 8] [2] [] [] (by kernel_rfl) (by kernel_rfl) (⟨QuAt.mk (v := .pointer (some ⟨p9_2.1, p9_2.2.1 + (0 : Int).toNat * 2, none⟩)) (some 57) (by kernel_rfl) (by kernel_rfl) (Qu.idx (t := 22) (x := .tmp 56) (y := .const (.int .i64 0)) (c := g2.1.2) (kk := .i64) (sz := 2) (by kernel_rfl) (by kernel_rfl) (by kernel_rfl) (by kernel_rfl) hx9_2a (idx_lt hx9_2) hp9_2A), trivial⟩) (by kernel_rfl) ⟨?_, trivial⟩
                      refine EvStep.mk (some 62) (new := fun p9_7 => [(9, some 6, .slice p9_7.1 (cutL s2.1 ((1 : Int).toNat) (((s2.1.length : Int) : Int).toNat)).length p9_7.2)]) ([1, 8, 9] ++ [2]) (by kernel_rfl) (Ev.cut (d := kd40) (xs := s2.1) (t := 22) (x := .tmp 61) (lo := (some (.const (.int .i64 1)))) (hi := none) (vlo := (some (.int .i64 1))) (vhi := none) (A := g2.1.1) (c := g2.1.2) (l := (1 : Int).toNat) (h := ((s2.1.length : Int) : Int).toNat) 0 (by kernel_rfl) (by kernel_rfl) (by kernel_rfl) (by kernel_rfl) (by kernel_rfl) (Bd.val _ _ _ (by omega)) (Bd.dflt _) (by omega) (by omega) rfl) (fun p9_7 => by kernel_rfl) (fun p9_7 => ?_)
                      refine D.fin (fr' := [(1, .func (.func 25) #[] #[]), (6, .slice p9_7.1 (cutL s2.1 ((1 : Int).toNat) (((s2.1.length : Int) : Int).toNat)).length p9_7.2), (7, .slice g2.2.1.1 s2.2.1.length g2.2.1.2), (8, .slice p9_5.1 (s2.2.2 ++ ([x9_2] : List S40)).length p9_5.2), (35, .slice g2.2.1.1 s2.2.1.length g2.2.1.2), (36, .int .i64 (s2.2.1.length : Int)), (37, .bool (decide ((s2.2.1.length : Int) > 0)))]) [1, 8, 9] [2] [] [] [1, 6, 7, 8, 35, 36, 37] (by kernel_rfl) (by kernel_rfl) (⟨QuAt.mk (v := .pointer (some ⟨p9_2.1, p9_2.2.1 + (0 : Int).toNat * 2, none⟩)) (some 57) (by kernel_rfl) (by kernel_rfl) (Qu.idx (t := 22) (x := .tmp 56) (y := .const (.int .i64 0)) (c := g2.1.2) (kk := .i64) (sz := 2) (by kernel_rfl) (by kernel_rfl) (by kernel_rfl) (by kernel_rfl) hx9_2a (idx_lt hx9_2) hp9_2A), trivial⟩) (by kernel_rfl) ?_
                      exact J.conv2 [1, 6, 7, 8, 35, 36, 37] [0, 1, 2, 3] [] [0] (by kernel_rfl) (by kernel_rfl) (by kernel_rfl) (by kernel_rfl) (by decide) (hk_ (p9_4, p9_5, p9_7))
                    · refine EvStep.mk (some 62) (new := fun p9_7 => []) ([0, 1] ++ [2]) (by kernel_rfl) (Ev.cut (d := kd40) (xs := s2.1) (t := 22) (x := .tmp 61) (lo := (some (.const (.int .i64 1)))) (hi := none) (vlo := (some (.int .i64 1))) (vhi := none) (A := g2.1.1) (c := g2.1.2) (l := (1 : Int).toNat) (h := ((s2.1.length : Int) : Int).toNat) 0 (by kernel_rfl) (by kernel_rfl) (by kernel_rfl) (by kernel_rfl) (by kernel_rfl) (Bd.val _ _ _ (by omega)) (Bd.dflt _) (by omega) (by omega) rfl) (fun p9_7 => by kernel_rfl) (fun p9_7 => ?_)
                      refine D.mid (cs := [5]) [0, 1] [2] [] [] (by kernel_rfl) (by kernel_rfl) (⟨QuAt.mk (v := .pointer (some ⟨p9_2.1, p9_2.2.1 + (0 : Int).toNat * 2, none⟩)) (some 57) (by kernel_rfl) (by kernel_rfl) (Qu.idx (t := 22) (x := .tmp 56) (y := .const (.int .i64 0)) (c := g2.1.2) (kk := .i64) (sz := 2) (by kernel_rfl) (by kernel_rfl) (by kernel_rfl) (by kernel_rfl) hx9_2a (idx_lt hx9_2) hp9_2A), trivial⟩) (by kernel_rfl) ⟨?_, trivial⟩
                      refine EvStep.mk (some 60) (new := fun p9_5 => [(8, some 8, .slice p9_5.1 (s2.2.2 ++ ([x9_2] : List S40)).length p9_5.2), (9, some 6, .slice p9_7.1 (cutL s2.1 ((1 : Int).toNat) (((s2.1.length : Int) : Int).toNat)).length p9_7.2)]) ([1, 8, 9] ++ [2]) (by kernel_rfl) (Ev.appLit (x := .tmp 55) (y := .tmp 59) (t := 22) (bytes := 16) (by kernel_rfl) (by kernel_rfl) (by kernel_rfl) (by kernel_rfl) (by kernel_rfl) (by decide) hy9_5a) (fun p9_5 => by kernel_rfl) (fun p9_5 => ?_)
                      refine D.fin (fr' := [(1, .func (.func 25) #[] #[]), (6, .slice p9_7.1 (cutL s2.1 ((1 : Int).toNat) (((s2.1.length : Int) : Int).toNat)).length p9_7.2), (7, .slice g2.2.1.1 s2.2.1.length g2.2.1.2), (8, .slice p9_5.1 (s2.2.2 ++ ([x9_2] : List S40)).length p9_5.2), (35, .slice g2.2.1.1 s2.2.1.length g2.2.1.2), (36, .int .i64 (s2.2.1.length : Int)), (37, .bool (decide ((s2.2.1.length : Int) > 0)))]) [1, 8, 9] [2] [] [] [1, 6, 7, 8, 35, 36, 37] (by kernel_rfl) (by kernel_rfl) (⟨QuAt.mk (v := .pointer (some ⟨p9_2.1, p9_2.2.1 + (0 : Int).toNat * 2, none⟩)) (some 57) (by kernel_rfl) (by kernel_rfl) (Qu.idx (t := 22) (x := .tmp 56) (y := .const (.int .i64 0)) (c := g2.1.2) (kk := .i64) (sz := 2) (by kernel_rfl) (by kernel_rfl) (by kernel_rfl) (by kernel_rfl) hx9_2a (idx_lt hx9_2) hp9_2A), trivial⟩) (by kernel_rfl) ?_
                      exact J.conv2 [1, 6, 7, 8, 35, 36, 37] [0, 1, 2, 3] [] [0] (by kernel_rfl) (by kernel_rfl) (by kernel_rfl) (by kernel_rfl) (by decide) (hk_ (p9_4, p9_5, p9_7))
                  · refine EvStep.mk (some 62) (new := fun p9_7 => []) ([0, 1, 3] ++ [2]) (by kernel_rfl) (Ev.cut (d := kd40) (xs := s2.1) (t := 22) (x := .tmp 61) (lo := (some (.const (.int .i64 1)))) (hi := none) (vlo := (some (.int .i64 1))) (vhi := none) (A := g2.1.1) (c := g2.1.2) (l := (1 : Int).toNat) (h := ((s2.1.length : Int) : Int).toNat) 0 (by kernel_rfl) (by kernel_rfl) (by kernel_rfl) (by kernel_rfl) (by kernel_rfl) (Bd.val _ _ _ (by omega)) (Bd.dflt _) (by omega) (by omega) rfl) (fun p9_7 => by kernel_rfl) (fun p9_7 => ?_)
                    refine D.mid (cs := [4]) [0, 1, 3] [2] [(0, 0)] [p9_2.1, p9_2.2.1 + (0 : Int).toNat * 2] (by kernel_rfl) (by kernel_rfl) (⟨QuAt.mk (v := .pointer (some ⟨p9_2.1, p9_2.2.1 + (0 : Int).toNat * 2, none⟩)) (some 57) (by kernel_rfl) (by kernel_rfl) (Qu.idx (t := 22) (x := .tmp 56) (y := .const (.int .i64 0)) (c := g2.1.2) (kk := .i64) (sz := 2) (by kernel_rfl) (by kernel_rfl) (by kernel_rfl) (by kernel_rfl) hx9_2a (idx_lt hx9_2) hp9_2A), trivial⟩) (by kernel_rfl) ⟨?_, trivial⟩
                    refine EvStep.mk (some 59) (new := fun p9_4 => []) ([0, 1] ++ [2]) (by kernel_rfl) (Ev.lit (t := 22) (len := 1) (parts := #[(0, .tmp 58)]) (ps := [(0, .agg #[.int .i64 x9_2.f0, .int .i64 x9_2.f1])]) (cs := [.int .i64 x9_2.f0, .int .i64 x9_2.f1]) (e := 40) kd40 ([x9_2] : List S40) (by kernel_rfl) (by kernel_rfl) (by kernel_rfl) (by kernel_rfl) (by kernel_rfl) (by decide) (fun w' hφ => (Els.cons (c := [.int .i64 x9_2.f0, .int .i64 x9_2.f1]) (rfl) (Els.nil _ _ _)))) (fun p9_4 => by kernel_rfl) (fun p9_4 => ?_)
                    refine D.mid (cs := [5]) [0, 1] [2] [] [] (by kernel_rfl) (by kernel_rfl) (⟨QuAt.mk (v := .pointer (some ⟨p9_2.1, p9_2.2.1 + (0 : Int).toNat * 2, none⟩)) (some 57) (by kernel_rfl) (by kernel_rfl) (Qu.idx (t := 22) (x := .tmp 56) (y := .const (.int .i64 0)) (c := g2.1.2) (kk := .i64) (sz := 2) (by kernel_rfl) (by kernel_rfl) (by kernel_rfl) (by kernel_rfl) hx9_2a (idx_lt hx9_2) hp9_2A), trivial⟩) (by kernel_rfl) ⟨?_, trivial⟩
                    refine EvStep.mk (some 60) (new := fun p9_5 => [(8, some 8, .slice p9_5.1 (s2.2.2 ++ ([x9_2] : List S40)).length p9_5.2), (9, some 6, .slice p9_7.1 (cutL s2.1 ((1 : Int).toNat) (((s2.1.length : Int) : Int).toNat)).length p9_7.2)]) ([1, 8, 9] ++ [2]) (by kernel_rfl) (Ev.appLit (x := .tmp 55) (y := .tmp 59) (t := 22) (bytes := 16) (by kernel_rfl) (by kernel_rfl) (by kernel_rfl) (by kernel_rfl) (by kernel_rfl) (by decide) hy9_5a) (fun p9_5 => by kernel_rfl) (fun p9_5 => ?_)
                    refine D.fin (fr' := [(1, .func (.func 25) #[] #[]), (6, .slice p9_7.1 (cutL s2.1 ((1 : Int).toNat) (((s2.1.length : Int) : Int).toNat)).length p9_7.2), (7, .slice g2.2.1.1 s2.2.1.length g2.2.1.2), (8, .slice p9_5.1 (s2.2.2 ++ ([x9_2] : List S40)).length p9_5.2), (35, .slice g2.2.1.1 s2.2.1.length g2.2.1.2), (36, .int .i64 (s2.2.1.length : Int)), (37, .bool (decide ((s2.2.1.length : Int) > 0)))]) [1, 8, 9] [2] [] [] [1, 6, 7, 8, 35, 36, 37] (by kernel_rfl) (by kernel_rfl) (⟨QuAt.mk (v := .pointer (some ⟨p9_2.1, p9_2.2.1 + (0 : Int).toNat * 2, none⟩)) (some 57) (by kernel_rfl) (by kernel_rfl) (Qu.idx (t := 22) (x := .tmp 56) (y := .const (.int .i64 0)) (c := g2.1.2) (kk := .i64) (sz := 2) (by kernel_rfl) (by kernel_rfl) (by kernel_rfl) (by kernel_rfl) hx9_2a (idx_lt hx9_2) hp9_2A), trivial⟩) (by kernel_rfl) ?_
                    exact J.conv2 [1, 6, 7, 8, 35, 36, 37] [0, 1, 2, 3] [] [0] (by kernel_rfl) (by kernel_rfl) (by kernel_rfl) (by kernel_rfl) (by decide) (hk_ (p9_4, p9_5, p9_7))
            · refine J.condF (x := .tmp 38) (t := (decide ((s2.2.1.length : Int) > 0))) (by kernel_rfl) (by kernel_rfl) hc10 ?_
              refine J.exit (id := 0) (by kernel_rfl) rfl ?_
              refine J.seq (by kernel_rfl) ?_
              obtain ⟨y10_2, hy10_2, H⟩ := bindE H
              have hy10_2a := (appE hy10_2).1
              obtain ⟨y10_4, hy10_4, H⟩ := bindE H
              have hy10_4a := (appE hy10_4).1
              refine J.region (by kernel_rfl) ?_
              refine O.pure 2 [] [7, 63, 64] [] (fr' := [(7, .slice g2.2.1.1 s2.2.1.length g2.2.1.2), (63, .slice g2.2.2.1 s2.2.2.length g2.2.2.2), (64, .slice g2.1.1 s2.1.length g2.1.2)]) (bx' := []) (by kernel_rfl) ?_
              refine O.e (some 65) (Ev.appSl (d := kd40) (ys := s2.1) (A := g2.1.1) (c := g2.1.2) (x := .tmp 63) (y := .tmp 64) (t := 22) (bytes := 16) 0 (by kernel_rfl) (by kernel_rfl) (by kernel_rfl) rfl (by kernel_rfl) (by decide) hy10_2a) (by kernel_rfl) (fun p10_2 => ?_)
              refine O.pure 1 [] [65, 66] [] (fr' := [(65, .slice p10_2.1 (s2.2.2 ++ s2.1).length p10_2.2), (66, .slice g2.2.1.1 s2.2.1.length g2.2.1.2)]) (bx' := []) (by kernel_rfl) ?_
              refine O.e (some 67) (Ev.appSl (d := kd40) (ys := s2.2.1) (A := g2.2.1.1) (c := g2.2.1.2) (x := .tmp 65) (y := .tmp 66) (t := 22) (bytes := 16) 1 (by kernel_rfl) (by kernel_rfl) (by kernel_rfl) rfl (by kernel_rfl) (by decide) hy10_4a) (by kernel_rfl) (fun p10_4 => ?_)
              refine O.pure 1 [] [4] [] (fr' := [(4, .slice p10_4.1 ((s2.2.2 ++ s2.1) ++ s2.2.1).length p10_4.2)]) (bx' := []) (by kernel_rfl) ?_
              refine O.nil (by kernel_rfl) ?_
              obtain rfl := Option.some.inj H
              exact J.doneS [] [] [] [] [0] p10_4 (vs := [.slice p10_4.1 ((s2.2.2 ++ s2.1) ++ s2.2.1).length p10_4.2]) (by kernel_rfl) (by kernel_rfl) (by kernel_rfl) (by kernel_rfl) (by kernel_rfl) (by decide)
          · refine J.region (by kernel_rfl) ?_
            refine O.pure 2 [] [1, 6, 7, 8, 32] [] (fr' := [(1, .func (.func 25) #[] #[]), (6, .slice g2.1.1 s2.1.length g2.1.2), (7, .slice g2.2.1.1 s2.2.1.length g2.2.1.2), (8, .slice g2.2.2.1 s2.2.2.length g2.2.2.2), (32, .int .i64 (s2.1.length : Int))]) (bx' := []) (by kernel_rfl) ?_
            refine O.q (v := .bool false) (some 33) (Qu.eqv (u := .bool (decide ((s2.1.length : Int) > 0))) (v := .bool false) (0, 0) [] (by kernel_rfl) (congrArg Value.bool hc9)) (by kernel_rfl) ?_
            refine O.pure 5 [] [1, 6, 7, 8, 35, 36, 37, 38] [] (fr' := [(1, .func (.func 25) #[] #[]), (6, .slice g2.1.1 s2.1.length g2.1.2), (7, .slice g2.2.1.1 s2.2.1.length g2.2.1.2), (8, .slice g2.2.2.1 s2.2.2.length g2.2.2.2), (35, undef), (36, undef), (37, undef), (38, .bool false)]) (bx' := []) (by kernel_rfl) ?_
            refine O.nil (by kernel_rfl) ?_
            refine J.cond (o := .tmp 38) false (by kernel_rfl) (by kernel_rfl) ?_
            refine J.exit (id := 0) (by kernel_rfl) rfl ?_
            refine J.seq (by kernel_rfl) ?_
            obtain ⟨y10_2, hy10_2, H⟩ := bindE H
            have hy10_2a := (appE hy10_2).1
            obtain ⟨y10_4, hy10_4, H⟩ := bindE H
            have hy10_4a := (appE hy10_4).1
            refine J.region (by kernel_rfl) ?_
            refine O.pure 2 [] [7, 63, 64] [] (fr' := [(7, .slice g2.2.1.1 s2.2.1.length g2.2.1.2), (63, .slice g2.2.2.1 s2.2.2.length g2.2.2.2), (64, .slice g2.1.1 s2.1.length g2.1.2)]) (bx' := []) (by kernel_rfl) ?_
            refine O.e (some 65) (Ev.appSl (d := kd40) (ys := s2.1) (A := g2.1.1) (c := g2.1.2) (x := .tmp 63) (y := .tmp 64) (t := 22) (bytes := 16) 0 (by kernel_rfl) (by kernel_rfl) (by kernel_rfl) rfl (by kernel_rfl) (by decide) hy10_2a) (by kernel_rfl) (fun p10_2 => ?_)
            refine O.pure 1 [] [65, 66] [] (fr' := [(65, .slice p10_2.1 (s2.2.2 ++ s2.1).length p10_2.2), (66, .slice g2.2.1.1 s2.2.1.length g2.2.1.2)]) (bx' := []) (by kernel_rfl) ?_
            refine O.e (some 67) (Ev.appSl (d := kd40) (ys := s2.2.1) (A := g2.2.1.1) (c := g2.2.1.2) (x := .tmp 65) (y := .tmp 66) (t := 22) (bytes := 16) 1 (by kernel_rfl) (by kernel_rfl) (by kernel_rfl) rfl (by kernel_rfl) (by decide) hy10_4a) (by kernel_rfl) (fun p10_4 => ?_)
            refine O.pure 1 [] [4] [] (fr' := [(4, .slice p10_4.1 ((s2.2.2 ++ s2.1) ++ s2.2.1).length p10_4.2)]) (bx' := []) (by kernel_rfl) ?_
            refine O.nil (by kernel_rfl) ?_
            obtain rfl := Option.some.inj H
            exact J.doneS [] [] [] [] [0] p10_4 (vs := [.slice p10_4.1 ((s2.2.2 ++ s2.1) ++ s2.2.1).length p10_4.2]) (by kernel_rfl) (by kernel_rfl) (by kernel_rfl) (by kernel_rfl) (by kernel_rfl) (by decide)
        · refine J.mono (fun w hS => hS.rowsel [2, 0, 1] rfl (by decide)) ?_
          refine J.mono (fun w hS => hS.freezeH (h := p4_4) (xs := x4_4)) ?_
          refine J.mono (fun w hS => hS.rowsel [1, 0] rfl (by decide)) ?_
          refine J.mono (fun w hS => hS.freezeH (h := p4_9) (xs := x4_9)) ?_
          exact J.conv2 [1, 6, 7, 8] [1, 0, 4] [] [0] (by kernel_rfl) (by kernel_rfl) (by kernel_rfl) (by kernel_rfl) (by decide) h_
      · refine J.drawS (by kernel_rfl) [(0, some 18, .slice h0.1 a0.length h0.2), (1, some 19, .int .i64 (IntKind.wrap .i64 ((a0.length : Int).tdiv 2))), (3, some 21, .func (.func 25) #[] #[]), (5, some 23, .slice h0.1 a0.length h0.2), (6, some 24, .int .i64 (IntKind.wrap .i64 ((a0.length : Int).tdiv 2))), (8, some 26, .func (.func 25) #[] #[])] ([0, 1, 3, 5, 6, 8] ++ []) (by kernel_rfl) ?_
        refine D.mid (cs := [2, 7]) [0, 1, 3, 5, 6, 8] [] [] [] (by kernel_rfl) (by kernel_rfl) trivial (by kernel_rfl) ⟨?_, ?_, trivial⟩
        · refine EvStep.mk (some 20) (new := fun p4_2 => []) ([3, 5, 6, 8] ++ []) (by kernel_rfl) (Ev.cut (d := kd40) (xs := a0) (t := 22) (x := .tmp 18) (lo := none) (hi := (some (.tmp 19))) (vlo := none) (vhi := (some (.int .i64 (IntKind.wrap .i64 ((a0.length : Int).tdiv 2))))) (A := h0.1) (c := h0.2) (l := (0 : Int).toNat) (h := ((IntKind.wrap .i64 ((a0.length : Int).tdiv 2)) : Int).toNat) 0 (by kernel_rfl) (by kernel_rfl) (by kernel_rfl) (by kernel_rfl) (by kernel_rfl) (Bd.dflt _) (Bd.val _ _ _ (by omega)) (by omega) (by omega) rfl) (fun p4_2 => by kernel_rfl) (fun p4_2 => ?_)
          refine D.mid (cs := [4, 7]) [3, 5, 6, 8] [] [] [] (by kernel_rfl) (by kernel_rfl) trivial (by kernel_rfl) ⟨?_, ?_, trivial⟩
          · refine EvStep.mk (some 22) (new := fun p4_4 => []) ([5, 6, 8] ++ []) (by kernel_rfl) (Ev.call0 (xs := [.tmp 20, .tmp 21]) [0] (by kernel_rfl) (by kernel_rfl) (fun w hS => ih (cutL a0 ((0 : Int).toNat) (((IntKind.wrap .i64 ((a0.length : Int).tdiv 2)) : Int).toNat)) p4_2  _ _ w hS hx4_4)) (fun p4_4 => by kernel_rfl) (fun p4_4 => ?_)
            refine D.mid (cs := [7]) [5, 6, 8] [] [] [] (by kernel_rfl) (by kernel_rfl) trivial (by kernel_rfl) ⟨?_, trivial⟩
            refine EvStep.mk (some 25) (new := fun p4_7 => []) ([8] ++ []) (by kernel_rfl) (Ev.cut (d := kd40) (xs := a0) (t := 22) (x := .tmp 23) (lo := (some (.tmp 24))) (hi := none) (vlo := (some (.int .i64 (IntKind.wrap .i64 ((a0.length : Int).tdiv 2))))) (vhi := none) (A := h0.1) (c := h0.2) (l := ((IntKind.wrap .i64 ((a0.length : Int).tdiv 2)) : Int).toNat) (h := ((a0.length : Int) : Int).toNat) 1 (by kernel_rfl) (by kernel_rfl) (by kernel_rfl) (by kernel_rfl) (by kernel_rfl) (Bd.val _ _ _ (by omega)) (Bd.dflt _) (by omega) (by omega) rfl) (fun p4_7 => by kernel_rfl) (fun p4_7 => ?_)
            refine D.mid (cs := [9]) [8] [] [] [] (by kernel_rfl) (by kernel_rfl) trivial (by kernel_rfl) ⟨?_, trivial⟩
            refine EvStep.mk (some 27) (new := fun p4_9 => [(10, some 6, .slice p4_4.1 x4_4.length p4_4.2), (11, some 7, .slice p4_9.1 x4_9.length p4_9.2)]) ([10, 11] ++ []) (by kernel_rfl) (Ev.call0 (xs := [.tmp 25, .tmp 26]) [0] (by kernel_rfl) (by kernel_rfl) (fun w hS => ih (cutL a0 (((IntKind.wrap .i64 ((a0.length : Int).tdiv 2)) : Int).toNat) (((a0.length : Int) : Int).toNat)) p4_7  _ _ w hS hx4_9)) (fun p4_9 => by kernel_rfl) (fun p4_9 => ?_)
            refine D.fin (fr' := [(0, .slice h0.1 a0.length h0.2), (1, .func (.func 25) #[] #[]), (6, .slice p4_4.1 x4_4.length p4_4.2), (7, .slice p4_9.1 x4_9.length p4_9.2)]) [10, 11] [] [] [] [0, 1, 6, 7] (by kernel_rfl) (by kernel_rfl) trivial (by kernel_rfl) ?_
            exact J.conv2 [0, 1, 6, 7] [0, 1, 2] [] [0, 1] (by kernel_rfl) (by kernel_rfl) (by kernel_rfl) (by kernel_rfl) (by decide) (hk_ (p4_2, p4_4, p4_7, p4_9))
          · refine EvStep.mk (some 25) (new := fun p4_7 => []) ([3, 8] ++ []) (by kernel_rfl) (Ev.cut (d := kd40) (xs := a0) (t := 22) (x := .tmp 23) (lo := (some (.tmp 24))) (hi := none) (vlo := (some (.int .i64 (IntKind.wrap .i64 ((a0.length : Int).tdiv 2))))) (vhi := none) (A := h0.1) (c := h0.2) (l := ((IntKind.wrap .i64 ((a0.length : Int).tdiv 2)) : Int).toNat) (h := ((a0.length : Int) : Int).toNat) 1 (by kernel_rfl) (by kernel_rfl) (by kernel_rfl) (by kernel_rfl) (by kernel_rfl) (Bd.val _ _ _ (by omega)) (Bd.dflt _) (by omega) (by omega) rfl) (fun p4_7 => by kernel_rfl) (fun p4_7 => ?_)
            refine D.mid (cs := [4]) [3, 8] [] [] [] (by kernel_rfl) (by kernel_rfl) trivial (by kernel_rfl) ⟨?_, trivial⟩
            refine EvStep.mk (some 22) (new := fun p4_4 => []) ([8] ++ []) (by kernel_rfl) (Ev.call0 (xs := [.tmp 20, .tmp 21]) [1] (by kernel_rfl) (by kernel_rfl) (fun w hS => ih (cutL a0 ((0 : Int).toNat) (((IntKind.wrap .i64 ((a0.length : Int).tdiv 2)) : Int).toNat)) p4_2  _ _ w hS hx4_4)) (fun p4_4 => by kernel_rfl) (fun p4_4 => ?_)
            refine D.mid (cs := [9]) [8] [] [] [] (by kernel_rfl) (by kernel_rfl) trivial (by kernel_rfl) ⟨?_, trivial⟩
            refine EvStep.mk (some 27) (new := fun p4_9 => [(10, some 6, .slice p4_4.1 x4_4.length p4_4.2), (11, some 7, .slice p4_9.1 x4_9.length p4_9.2)]) ([10, 11] ++ []) (by kernel_rfl) (Ev.call0 (xs := [.tmp 25, .tmp 26]) [0] (by kernel_rfl) (by kernel_rfl) (fun w hS => ih (cutL a0 (((IntKind.wrap .i64 ((a0.length : Int).tdiv 2)) : Int).toNat) (((a0.length : Int) : Int).toNat)) p4_7  _ _ w hS hx4_9)) (fun p4_9 => by kernel_rfl) (fun p4_9 => ?_)
            refine D.fin (fr' := [(0, .slice h0.1 a0.length h0.2), (1, .func (.func 25) #[] #[]), (6, .slice p4_4.1 x4_4.length p4_4.2), (7, .slice p4_9.1 x4_9.length p4_9.2)]) [10, 11] [] [] [] [0, 1, 6, 7] (by kernel_rfl) (by kernel_rfl) trivial (by kernel_rfl) ?_
            exact J.conv2 [0, 1, 6, 7] [0, 1, 2] [] [0, 1] (by kernel_rfl) (by kernel_rfl) (by kernel_rfl) (by kernel_rfl) (by decide) (hk_ (p4_2, p4_4, p4_7, p4_9))
        · refine EvStep.mk (some 25) (new := fun p4_7 => []) ([0, 1, 3, 8] ++ []) (by kernel_rfl) (Ev.cut (d := kd40) (xs := a0) (t := 22) (x := .tmp 23) (lo := (some (.tmp 24))) (hi := none) (vlo := (some (.int .i64 (IntKind.wrap .i64 ((a0.length : Int).tdiv 2))))) (vhi := none) (A := h0.1) (c := h0.2) (l := ((IntKind.wrap .i64 ((a0.length : Int).tdiv 2)) : Int).toNat) (h := ((a0.length : Int) : Int).toNat) 0 (by kernel_rfl) (by kernel_rfl) (by kernel_rfl) (by kernel_rfl) (by kernel_rfl) (Bd.val _ _ _ (by omega)) (Bd.dflt _) (by omega) (by omega) rfl) (fun p4_7 => by kernel_rfl) (fun p4_7 => ?_)
          refine D.mid (cs := [2]) [0, 1, 3, 8] [] [] [] (by kernel_rfl) (by kernel_rfl) trivial (by kernel_rfl) ⟨?_, trivial⟩
          refine EvStep.mk (some 20) (new := fun p4_2 => []) ([3, 8] ++ []) (by kernel_rfl) (Ev.cut (d := kd40) (xs := a0) (t := 22) (x := .tmp 18) (lo := none) (hi := (some (.tmp 19))) (vlo := none) (vhi := (some (.int .i64 (IntKind.wrap .i64 ((a0.length : Int).tdiv 2))))) (A := h0.1) (c := h0.2) (l := (0 : Int).toNat) (h := ((IntKind.wrap .i64 ((a0.length : Int).tdiv 2)) : Int).toNat) 1 (by kernel_rfl) (by kernel_rfl) (by kernel_rfl) (by kernel_rfl) (by kernel_rfl) (Bd.dflt _) (Bd.val _ _ _ (by omega)) (by omega) (by omega) rfl) (fun p4_2 => by kernel_rfl) (fun p4_2 => ?_)
          refine D.mid (cs := [4]) [3, 8] [] [] [] (by kernel_rfl) (by kernel_rfl) trivial (by kernel_rfl) ⟨?_, trivial⟩
          refine EvStep.mk (some 22) (new := fun p4_4 => []) ([8] ++ []) (by kernel_rfl) (Ev.call0 (xs := [.tmp 20, .tmp 21]) [0] (by kernel_rfl) (by kernel_rfl) (fun w hS => ih (cutL a0 ((0 : Int).toNat) (((IntKind.wrap .i64 ((a0.length : Int).tdiv 2)) : Int).toNat)) p4_2  _ _ w hS hx4_4)) (fun p4_4 => by kernel_rfl) (fun p4_4 => ?_)
          refine D.mid (cs := [9]) [8] [] [] [] (by kernel_rfl) (by kernel_rfl) trivial (by kernel_rfl) ⟨?_, trivial⟩
          refine EvStep.mk (some 27) (new := fun p4_9 => [(10, some 6, .slice p4_4.1 x4_4.length p4_4.2), (11, some 7, .slice p4_9.1 x4_9.length p4_9.2)]) ([10, 11] ++ []) (by kernel_rfl) (Ev.call0 (xs := [.tmp 25, .tmp 26]) [1] (by kernel_rfl) (by kernel_rfl) (fun w hS => ih (cutL a0 (((IntKind.wrap .i64 ((a0.length : Int).tdiv 2)) : Int).toNat) (((a0.length : Int) : Int).toNat)) p4_7  _ _ w hS hx4_9)) (fun p4_9 => by kernel_rfl) (fun p4_9 => ?_)
          refine D.fin (fr' := [(0, .slice h0.1 a0.length h0.2), (1, .func (.func 25) #[] #[]), (6, .slice p4_4.1 x4_4.length p4_4.2), (7, .slice p4_9.1 x4_9.length p4_9.2)]) [10, 11] [] [] [] [0, 1, 6, 7] (by kernel_rfl) (by kernel_rfl) trivial (by kernel_rfl) ?_
          exact J.conv2 [0, 1, 6, 7] [1, 0, 2] [] [0, 1] (by kernel_rfl) (by kernel_rfl) (by kernel_rfl) (by kernel_rfl) (by decide) (hk_ (p4_2, p4_4, p4_7, p4_9))
theorem api_Msg_ahead.con (K : Nat) (a0 : List S40) (h0 : Hd) (r : (List S40)) (X : Nat → Nat → Prop) (w : World) (hS : St X w [] [] [] [] [Rd kd40 h0.1 h0.2 a0] w) (H : api_Msg_ahead.f K a0 = some r) : Cn Try.prog 24 [.slice h0.1 a0.length h0.2, .func (.func 25) #[] #[]] X w [] (fun i : Hd => .slice i.1 r.length i.2) (fun i => []) (fun i => [mkRow kd40 40 (.slice i.1 r.length i.2) r]) (fun i => []) := api_Msg_ahead.con_r K K a0 h0 r X w hS H
/-! ### haywain/box.Sort: function 13 -/
def box_Sort.f (K : Nat) (a0 : List S40) : Option (List S40) := (api_Msg_ahead.f K a0).bind fun x1_1 => some (x1_1)
set_option maxRecDepth 100000 in
set_option maxHeartbeats 1000000 in
theorem box_Sort.con (K : Nat) (a0 : List S40) (h0 : Hd) (r : (List S40)) (X : Nat → Nat → Prop) (w : World) (hS : St X w [] [] [] [] [Rd kd40 h0.1 h0.2 a0] w) (H : box_Sort.f K a0 = some r) :
    Cn Try.prog 13 [.slice h0.1 a0.length h0.2] X w [] (fun i : Hd => .slice i.1 r.length i.2) (fun i => []) (fun i => [mkRow kd40 40 (.slice i.1 r.length i.2) r]) (fun i => []) := by
  refine Cn.of Try.func13 (by kernel_rfl) hS ?_
  unfold box_Sort.f at H
  refine J.seq (by kernel_rfl) ?_
  refine J.region (by kernel_rfl) ?_
  refine O.pure 1 [] [0] [] (fr' := [(0, .slice h0.1 a0.length h0.2)]) (bx' := []) (by kernel_rfl) ?_
  refine O.nil (by kernel_rfl) ?_
  refine J.seq (by kernel_rfl) ?_
  obtain ⟨x1_1, hx1_1, H⟩ := bindE H
  refine J.region (by kernel_rfl) ?_
  refine O.pure 1 [] [3] [] (fr' := [(3, .slice h0.1 a0.length h0.2)]) (bx' := []) (by kernel_rfl) ?_
  refine O.e (some 4) (Ev.call0 (xs := [.tmp 3, .func 25]) [0] (by kernel_rfl) (by kernel_rfl) (fun w hS => api_Msg_ahead.con K a0 h0  _ _ w hS hx1_1)) (by kernel_rfl) (fun p1_1 => ?_)
  refine O.pure 1 [] [2] [] (fr' := [(2, .slice p1_1.1 x1_1.length p1_1.2)]) (bx' := []) (by kernel_rfl) ?_
  refine O.nil (by kernel_rfl) ?_
  obtain rfl := Option.some.inj H
  exact J.doneS [] [] [] [] [0] p1_1 (vs := [.slice p1_1.1 x1_1.length p1_1.2]) (by kernel_rfl) (by kernel_rfl) (by kernel_rfl) (by kernel_rfl) (by kernel_rfl) (by decide)
/-! ### haywain/box.Join: function 16 -/
def box_Join.l1 (K : Nat) (a0 : List (List S40)) : Nat → ((List S40) × Int) → Option (List S40)
  | 0, _ => none
  | k + 1, s1 => cond (decide (s1.2 < (a0.length : Int))) ((idxO a0 s1.2).bind fun x4_0 => (appO 16 s1.1 x4_0).bind fun y5_2 => box_Join.l1 K a0 k ((s1.1 ++ x4_0), (IntKind.wrap .i64 (s1.2 + 1)))) ((box_Sort.f K s1.1).bind fun x7_1 => some (x7_1))
def box_Join.f (K : Nat) (a0 : List (List S40)) : Option (List S40) := box_Join.l1 K a0 K (([] : List S40), 0)
set_option maxRecDepth 100000 in
set_option maxHeartbeats 1000000 in
theorem box_Join.con (K : Nat) (a0 : List (List S40)) (h0 : Hd) (r : (List S40)) (X : Nat → Nat → Prop) (w : World) (hS : St X w [] [] [] [] [Rd (Kd.slice kd40) h0.1 h0.2 a0] w) (H : box_Join.f K a0 = some r) :
    Cn Try.prog 16 [.slice h0.1 a0.length h0.2] X w [] (fun i : Hd => .slice i.1 r.length i.2) (fun i => []) (fun i => [mkRow kd40 40 (.slice i.1 r.length i.2) r]) (fun i => []) := by
  refine Cn.of Try.func16 (by kernel_rfl) hS ?_
  unfold box_Join.f at H
  refine J.seq (by kernel_rfl) ?_
  refine J.region (by kernel_rfl) ?_
  refine O.pure 1 [] [0] [] (fr' := [(0, .slice h0.1 a0.length h0.2)]) (bx' := []) (by kernel_rfl) ?_
  refine O.nil (by kernel_rfl) ?_
  refine J.seq (by kernel_rfl) ?_
  refine J.region (by kernel_rfl) ?_
  refine O.pure 1 [] [0, 3] [] (fr' := [(0, .slice h0.1 a0.length h0.2), (3, .slice none 0 0)]) (bx' := []) (by kernel_rfl) ?_
  refine O.nil (by kernel_rfl) ?_
  refine J.seq (by kernel_rfl) ?_
  refine J.seq (by kernel_rfl) ?_
  refine J.region (by kernel_rfl) ?_
  refine O.pure 3 [] [3, 6, 7, 8] [] (fr' := [(3, .slice none 0 0), (6, .slice h0.1 a0.length h0.2), (7, .int .i64 (a0.length : Int)), (8, .int .i64 0)]) (bx' := []) (by kernel_rfl) ?_
  refine O.nil (by kernel_rfl) ?_
  refine J.block (id := 0) (by kernel_rfl) ?_
  refine J.loopI (σ := (List S40) × Int) (γ := Hd) (f := fun m_ s_ => box_Join.l1 K a0 m_ s_) (fun s1 g1 => [(3, .slice g1.1 s1.1.length g1.2), (6, .slice h0.1 a0.length h0.2), (7, .int .i64 (a0.length : Int)), (8, .int .i64 s1.2)]) (fun s1 g1 => St X w [] [] [mkRow kd40 40 (.slice g1.1 s1.1.length g1.2) s1.1] [] [Rd (Kd.slice kd40) h0.1 h0.2 a0]) K (([] : List S40), 0) (none, 0) (by kernel_rfl) H (fun _ => rfl) (fun m_ s1 H ih1 g1 => ?_) (fun h_ => ?_)
  · unfold box_Join.l1 at H
    refine J.seq (by kernel_rfl) ?_
    refine J.region (by kernel_rfl) ?_
    refine O.pure 1 [] [3, 6, 7, 8, 9] [] (fr' := [(3, .slice g1.1 s1.1.length g1.2), (6, .slice h0.1 a0.length h0.2), (7, .int .i64 (a0.length : Int)), (8, .int .i64 s1.2), (9, .bool (decide (s1.2 < (a0.length : Int))))]) (bx' := []) (by kernel_rfl) ?_
    refine O.nil (by kernel_rfl) ?_
    refine J.seq (by kernel_rfl) ?_
    rcases condE H with ⟨hc4, H⟩ | ⟨hc4, H⟩
    · refine J.condT (x := .tmp 9) (t := (decide (s1.2 < (a0.length : Int)))) (by kernel_rfl) (by kernel_rfl) hc4 ?_
      refine J.skip (by kernel_rfl) ?_
      refine J.seq (by kernel_rfl) ?_
      refine J.block (id := 1) (by kernel_rfl) ?_
      refine J.seq (by kernel_rfl) ?_
      obtain ⟨x4_0, hx4_0, H⟩ := bindE H
      obtain ⟨hx4_0a, hx4_0⟩ := idxE hx4_0
      refine J.region (by kernel_rfl) ?_
      refine O.open (d := (Kd.slice kd40)) (h := h0) (i := s1.2) 0 rfl hx4_0 (Lay.slice _ _) (fun p4_0 hp4_0A => ?_)
      refine O.q (v := .pointer (some ⟨p4_0.1, p4_0.2.1 + s1.2.toNat * 1, none⟩)) (some 10) (Qu.idx (t := 27) (x := .tmp 6) (y := .tmp 8) (c := h0.2) (kk := .i64) (sz := 1) (by kernel_rfl) (by kernel_rfl) (by kernel_rfl) (by kernel_rfl) hx4_0a (idx_lt hx4_0) hp4_0A) (by kernel_rfl) ?_
      refine O.pure 2 [(0, 0)] [3, 5, 6, 7, 8] [p4_0.1, p4_0.2.1 + s1.2.toNat * 1] (fr' := [(3, .slice g1.1 s1.1.length g1.2), (5, .slice p4_0.2.2.1 x4_0.length p4_0.2.2.2), (6, .slice h0.1 a0.length h0.2), (7, .int .i64 (a0.length : Int)), (8, .int .i64 s1.2)]) (bx' := []) (by kernel_rfl) ?_
      refine O.nil (by kernel_rfl) ?_
      obtain ⟨y5_2, hy5_2, H⟩ := bindE H
      have hy5_2a := (appE hy5_2).1
      refine J.region (by kernel_rfl) ?_
      refine O.pure 2 [] [3, 6, 7, 8, 12, 13] [] (fr' := [(3, .slice g1.1 s1.1.length g1.2), (6, .slice h0.1 a0.length h0.2), (7, .int .i64 (a0.length : Int)), (8, .int .i64 s1.2), (12, .slice g1.1 s1.1.length g1.2), (13, .slice p4_0.2.2.1 x4_0.length p4_0.2.2.2)]) (bx' := []) (by kernel_rfl) ?_
      refine O.e (some 14) (Ev.appSl (d := kd40) (ys := x4_0) (A := p4_0.2.2.1) (c := p4_0.2.2.2) (x := .tmp 12) (y := .tmp 13) (t := 22) (bytes := 16) 0 (by kernel_rfl) (by kernel_rfl) (by kernel_rfl) rfl (by kernel_rfl) (by decide) hy5_2a) (by kernel_rfl) (fun p5_2 => ?_)
      refine O.pure 1 [] [3, 6, 7, 8] [] (fr' := [(3, .slice p5_2.1 (s1.1 ++ x4_0).length p5_2.2), (6, .slice h0.1 a0.length h0.2), (7, .int .i64 (a0.length : Int)), (8, .int .i64 s1.2)]) (bx' := []) (by kernel_rfl) ?_
      refine O.nil (by kernel_rfl) ?_
      refine J.out ?_
      refine J.region (by kernel_rfl) ?_
      refine O.pure 2 [] [3, 6, 7, 8] [] (fr' := [(3, .slice p5_2.1 (s1.1 ++ x4_0).length p5_2.2), (6, .slice h0.1 a0.length h0.2), (7, .int .i64 (a0.length : Int)), (8, .int .i64 (IntKind.wrap .i64 (s1.2 + 1)))]) (bx' := []) (by kernel_rfl) ?_
      refine O.nil (by kernel_rfl) ?_
      exact J.conv2 [3, 6, 7, 8] [1] [] [0] (by kernel_rfl) (by kernel_rfl) (by kernel_rfl) (by kernel_rfl) (by decide) (ih1 ((s1.1 ++ x4_0), (IntKind.wrap .i64 (s1.2 + 1))) p5_2 H)
    · refine J.condF (x := .tmp 9) (t := (decide (s1.2 < (a0.length : Int)))) (by kernel_rfl) (by kernel_rfl) hc4 ?_
      refine J.exit (id := 0) (by kernel_rfl) rfl ?_
      refine J.seq (by kernel_rfl) ?_
      obtain ⟨x7_1, hx7_1, H⟩ := bindE H
      refine J.region (by kernel_rfl) ?_
      refine O.pure 1 [] [16] [] (fr' := [(16, .slice g1.1 s1.1.length g1.2)]) (bx' := []) (by kernel_rfl) ?_
      refine O.e (some 17) (Ev.callL (hh := g1) (xs := s1.1) (m := s1.1.length) (xs1 := [.tmp 16]) [0] rfl (by kernel_rfl) (by kernel_rfl) (fun _ q hq _ _ _ h => by obtain rfl := List.mem_singleton.1 hq; exact h) (fun w hS => box_Sort.con K s1.1 g1  _ _ w hS hx7_1)) (by kernel_rfl) (fun p7_1 => ?_)
      refine O.pure 1 [] [2] [] (fr' := [(2, .slice p7_1.1 x7_1.length p7_1.2)]) (bx' := []) (by kernel_rfl) ?_
      refine O.nil (by kernel_rfl) ?_
      obtain rfl := Option.some.inj H
      exact J.doneS [] [] [] [] [0] p7_1 (vs := [.slice p7_1.1 x7_1.length p7_1.2]) (by kernel_rfl) (by kernel_rfl) (by kernel_rfl) (by kernel_rfl) (by kernel_rfl) (by decide)
  · refine J.nilrow kd40 40 ?_
    exact J.conv2 [3, 6, 7, 8] [0] [] [0] (by kernel_rfl) (by kernel_rfl) (by kernel_rfl) (by kernel_rfl) (by decide) h_
/-! ### haywain/prog.source: function 31 -/
def prog_source.f (K : Nat) (a0 : S61) (a1 : Int) : Option Int := cond (a1 == a0.f1) (some (0)) (some (9223372036854775807))
set_option maxRecDepth 100000 in
set_option maxHeartbeats 1000000 in
theorem prog_source.con (K : Nat) (a0 : S61) (a1 : Int) (r : Int) (X : Nat → Nat → Prop) (w : World) (hS : St X w [] [] [] [] [] w) (H : prog_source.f K a0 a1 = some r) :
    Cn Try.prog 31 [.agg #[.int .i64 a0.f0, .int .i64 a0.f1, .int .i64 a0.f2, .int .i64 a0.f3], .int .i64 a1] X w [] (fun i : Unit => .int .i64 r) (fun i => []) (fun i => []) (fun i => []) := by
  refine Cn.of Try.func31 (by kernel_rfl) hS ?_
  unfold prog_source.f at H
  refine J.seq (by kernel_rfl) ?_
  refine J.region (by kernel_rfl) ?_
  refine O.e (some 2) (Ev.box (t := 61) (x := .tmp 0) (v := .agg #[.int .i64 a0.f0, .int .i64 a0.f1, .int .i64 a0.f2, .int .i64 a0.f3]) (by kernel_rfl) (by kernel_rfl)) (by kernel_rfl) (fun p0_0 => ?_)
  refine O.pure 1 [] [1, 2] [] (fr' := [(1, .int .i64 a1), (2, .pointer (some ⟨p0_0, 0, none⟩))]) (bx' := [⟨p0_0, [.int .i64 a0.f0, .int .i64 a0.f1, .int .i64 a0.f2, .int .i64 a0.f3], 61⟩]) (by kernel_rfl) ?_
  refine O.nil (by kernel_rfl) ?_
  refine J.seq (by kernel_rfl) ?_
  refine J.seq (by kernel_rfl) ?_
  refine J.region (by kernel_rfl) ?_
  refine O.pure 4 [(0, 1)] [8] [p0_0, 1] (fr' := [(8, .bool (a1 == a0.f1))]) (bx' := [⟨p0_0, [.int .i64 a0.f0, .int .i64 a0.f1, .int .i64 a0.f2, .int .i64 a0.f3], 61⟩]) (by kernel_rfl) ?_
  refine O.nil (by kernel_rfl) ?_
  rcases condE H with ⟨hc1, H⟩ | ⟨hc1, H⟩
  · refine J.condT (x := .tmp 8) (t := (a1 == a0.f1)) (by kernel_rfl) (by kernel_rfl) hc1 ?_
    refine J.seq (by kernel_rfl) ?_
    refine J.region (by kernel_rfl) ?_
    refine O.pure 1 [] [4] [] (fr' := [(4, .int .i64 0)]) (bx' := [⟨p0_0, [.int .i64 a0.f0, .int .i64 a0.f1, .int .i64 a0.f2, .int .i64 a0.f3], 61⟩]) (by kernel_rfl) ?_
    refine O.nil (by kernel_rfl) ?_
    obtain rfl := Option.some.inj H
    exact J.doneS [] [] [] [] [] () (vs := [.int .i64 0]) (by kernel_rfl) (by kernel_rfl) (by kernel_rfl) (by kernel_rfl) (by kernel_rfl) (by decide)
  · refine J.condF (x := .tmp 8) (t := (a1 == a0.f1)) (by kernel_rfl) (by kernel_rfl) hc1 ?_
    refine J.skip (by kernel_rfl) ?_
    refine J.seq (by kernel_rfl) ?_
    refine J.region (by kernel_rfl) ?_
    refine O.pure 1 [] [4] [] (fr' := [(4, .int .i64 9223372036854775807)]) (bx' := [⟨p0_0, [.int .i64 a0.f0, .int .i64 a0.f1, .int .i64 a0.f2, .int .i64 a0.f3], 61⟩]) (by kernel_rfl) ?_
    refine O.nil (by kernel_rfl) ?_
    obtain rfl := Option.some.inj H
    exact J.doneS [] [] [] [] [] () (vs := [.int .i64 9223372036854775807]) (by kernel_rfl) (by kernel_rfl) (by kernel_rfl) (by kernel_rfl) (by kernel_rfl) (by decide)
/-! ### haywain/prog.less: function 32 -/
def prog_less.f (K : Nat) (a0 : Int) (a1 : Int) : Option Bool := some ((decide (a0 < a1)))
set_option maxRecDepth 100000 in
set_option maxHeartbeats 1000000 in
theorem prog_less.con (K : Nat) (a0 : Int) (a1 : Int) (r : Bool) (X : Nat → Nat → Prop) (w : World) (hS : St X w [] [] [] [] [] w) (H : prog_less.f K a0 a1 = some r) :
    Cn Try.prog 32 [.int .i64 a0, .int .i64 a1] X w [] (fun i : Unit => .bool r) (fun i => []) (fun i => []) (fun i => []) := by
  refine Cn.of Try.func32 (by kernel_rfl) hS ?_
  unfold prog_less.f at H
  refine J.seq (by kernel_rfl) ?_
  refine J.region (by kernel_rfl) ?_
  refine O.pure 1 [] [0, 1] [] (fr' := [(0, .int .i64 a0), (1, .int .i64 a1)]) (bx' := []) (by kernel_rfl) ?_
  refine O.nil (by kernel_rfl) ?_
  refine J.seq (by kernel_rfl) ?_
  refine J.region (by kernel_rfl) ?_
  refine O.pure 4 [] [4] [] (fr' := [(4, .bool (decide (a0 < a1)))]) (bx' := []) (by kernel_rfl) ?_
  refine O.nil (by kernel_rfl) ?_
  obtain rfl := Option.some.inj H
  exact J.doneS [] [] [] [] [] () (vs := [.bool (decide (a0 < a1))]) (by kernel_rfl) (by kernel_rfl) (by kernel_rfl) (by kernel_rfl) (by kernel_rfl) (by decide)
/-! ### haywain/prog.same: function 36 -/
def prog_same.f (K : Nat) (a0 : Int) (a1 : S59) : Option (Int × Bool) := some ((a0, true))
set_option maxRecDepth 100000 in
set_option maxHeartbeats 1000000 in
theorem prog_same.con (K : Nat) (a0 : Int) (a1 : S59) (r : (Int × Bool)) (X : Nat → Nat → Prop) (w : World) (hS : St X w [] [] [] [] [] w) (H : prog_same.f K a0 a1 = some r) :
    Cn Try.prog 36 [.int .i64 a0, .agg #[.int .i64 a1.f0, .int .i64 a1.f1, .int .i64 a1.f2]] X w [] (fun i : Unit => .tuple #[.int .i64 r.1, .bool r.2]) (fun i => []) (fun i => []) (fun i => []) := by
  refine Cn.of Try.func36 (by kernel_rfl) hS ?_
  unfold prog_same.f at H
  refine J.seq (by kernel_rfl) ?_
  refine J.region (by kernel_rfl) ?_
  refine O.e (some 3) (Ev.box (t := 59) (x := .tmp 1) (v := .agg #[.int .i64 a1.f0, .int .i64 a1.f1, .int .i64 a1.f2]) (by kernel_rfl) (by kernel_rfl)) (by kernel_rfl) (fun p0_0 => ?_)
  refine O.pure 2 [] [0] [] (fr' := [(0, .int .i64 a0)]) (bx' := [⟨p0_0, [.int .i64 a1.f0, .int .i64 a1.f1, .int .i64 a1.f2], 59⟩]) (by kernel_rfl) ?_
  refine O.nil (by kernel_rfl) ?_
  refine J.seq (by kernel_rfl) ?_
  refine J.region (by kernel_rfl) ?_
  refine O.pure 3 [] [4, 5] [] (fr' := [(4, .int .i64 a0), (5, .bool true)]) (bx' := [⟨p0_0, [.int .i64 a1.f0, .int .i64 a1.f1, .int .i64 a1.f2], 59⟩]) (by kernel_rfl) ?_
  refine O.nil (by kernel_rfl) ?_
  obtain rfl := Option.some.inj H
  exact J.doneS [] [] [] [] [] () (vs := [.int .i64 a0, .bool true]) (by kernel_rfl) (by kernel_rfl) (by kernel_rfl) (by kernel_rfl) (by kernel_rfl) (by decide)
/-! ### haywain/num.Add: function 29 -/
def num_Add.f (K : Nat) (a0 : Int) (a1 : Int) : Option (Int × Bool) := cond ((decide (a0 ≥ 0)) == (decide (a1 ≥ 0))) (cond (!((decide ((IntKind.wrap .i64 (a0 + a1)) ≥ 0)) == (decide (a0 ≥ 0)))) (some ((0, false))) (some (((IntKind.wrap .i64 (a0 + a1)), true)))) (some (((IntKind.wrap .i64 (a0 + a1)), true)))
set_option maxRecDepth 100000 in
set_option maxHeartbeats 1000000 in
theorem num_Add.con (K : Nat) (a0 : Int) (a1 : Int) (r : (Int × Bool)) (X : Nat → Nat → Prop) (w : World) (hS : St X w [] [] [] [] [] w) (H : num_Add.f K a0 a1 = some r) :
    Cn Try.prog 29 [.int .i64 a0, .int .i64 a1] X w [] (fun i : Unit => .tuple #[.int .i64 r.1, .bool r.2]) (fun i => []) (fun i => []) (fun i => []) := by
  refine Cn.of Try.func29 (by kernel_rfl) hS ?_
  unfold num_Add.f at H
  refine J.seq (by kernel_rfl) ?_
  refine J.region (by kernel_rfl) ?_
  refine O.pure 2 [] [0, 1] [] (fr' := [(0, .int .i64 a0), (1, .int .i64 a1)]) (bx' := []) (by kernel_rfl) ?_
  refine O.nil (by kernel_rfl) ?_
  refine J.seq (by kernel_rfl) ?_
  refine J.region (by kernel_rfl) ?_
  refine O.pure 4 [] [0, 1, 6] [] (fr' := [(0, .int .i64 a0), (1, .int .i64 a1), (6, .int .i64 (IntKind.wrap .i64 (a0 + a1)))]) (bx' := []) (by kernel_rfl) ?_
  refine O.nil (by kernel_rfl) ?_
  refine J.seq (by kernel_rfl) ?_
  refine J.seq (by kernel_rfl) ?_
  rcases condE H with ⟨hc1, H⟩ | ⟨hc1, H⟩
  · refine J.region (by kernel_rfl) ?_
    refine O.pure 4 [] [0, 6, 11, 13] [] (fr' := [(0, .int .i64 a0), (6, .int .i64 (IntKind.wrap .i64 (a0 + a1))), (11, .bool (decide (a0 ≥ 0))), (13, .bool (decide (a1 ≥ 0)))]) (bx' := []) (by kernel_rfl) ?_
    refine O.q (v := .bool true) (some 14) (Qu.as (congrArg Value.bool hc1) (Qu.binT (op := .eql) (t := 4) (t' := 4) (x := .tmp 11) (y := .tmp 13) (u := .bool (decide (a0 ≥ 0))) (v := .bool (decide (a1 ≥ 0))) (by kernel_rfl) (by kernel_rfl) (by kernel_rfl) (by kernel_rfl))) (by kernel_rfl) ?_
    refine O.pure 5 [] [6, 15, 17, 19] [] (fr' := [(6, .int .i64 (IntKind.wrap .i64 (a0 + a1))), (15, .bool true), (17, .bool (decide ((IntKind.wrap .i64 (a0 + a1)) ≥ 0))), (19, .bool (decide (a0 ≥ 0)))]) (bx' := []) (by kernel_rfl) ?_
    refine O.q (v := .bool (!((decide ((IntKind.wrap .i64 (a0 + a1)) ≥ 0)) == (decide (a0 ≥ 0))))) (some 20) (Qu.binT (op := .neq) (t := 4) (t' := 4) (x := .tmp 17) (y := .tmp 19) (u := .bool (decide ((IntKind.wrap .i64 (a0 + a1)) ≥ 0))) (v := .bool (decide (a0 ≥ 0))) (by kernel_rfl) (by kernel_rfl) (by kernel_rfl) (by kernel_rfl)) (by kernel_rfl) ?_
    refine O.pure 1 [] [6, 21] [] (fr' := [(6, .int .i64 (IntKind.wrap .i64 (a0 + a1))), (21, .bool (!((decide ((IntKind.wrap .i64 (a0 + a1)) ≥ 0)) == (decide (a0 ≥ 0)))))]) (bx' := []) (by kernel_rfl) ?_
    refine O.nil (by kernel_rfl) ?_
    rcases condE H with ⟨hc2, H⟩ | ⟨hc2, H⟩
    · refine J.condT (x := .tmp 21) (t := (!((decide ((IntKind.wrap .i64 (a0 + a1)) ≥ 0)) == (decide (a0 ≥ 0))))) (by kernel_rfl) (by kernel_rfl) hc2 ?_
      refine J.seq (by kernel_rfl) ?_
      refine J.region (by kernel_rfl) ?_
      refine O.pure 2 [] [4, 5] [] (fr' := [(4, .int .i64 0), (5, .bool false)]) (bx' := []) (by kernel_rfl) ?_
      refine O.nil (by kernel_rfl) ?_
      obtain rfl := Option.some.inj H
      exact J.doneS [] [] [] [] [] () (vs := [.int .i64 0, .bool false]) (by kernel_rfl) (by kernel_rfl) (by kernel_rfl) (by kernel_rfl) (by kernel_rfl) (by decide)
    · refine J.condF (x := .tmp 21) (t := (!((decide ((IntKind.wrap .i64 (a0 + a1)) ≥ 0)) == (decide (a0 ≥ 0))))) (by kernel_rfl) (by kernel_rfl) hc2 ?_
      refine J.skip (by kernel_rfl) ?_
      refine J.seq (by kernel_rfl) ?_
      refine J.region (by kernel_rfl) ?_
      refine O.pure 3 [] [4, 5] [] (fr' := [(4, .int .i64 (IntKind.wrap .i64 (a0 + a1))), (5, .bool true)]) (bx' := []) (by kernel_rfl) ?_
      refine O.nil (by kernel_rfl) ?_
      obtain rfl := Option.some.inj H
      exact J.doneS [] [] [] [] [] () (vs := [.int .i64 (IntKind.wrap .i64 (a0 + a1)), .bool true]) (by kernel_rfl) (by kernel_rfl) (by kernel_rfl) (by kernel_rfl) (by kernel_rfl) (by decide)
  · refine J.region (by kernel_rfl) ?_
    refine O.pure 4 [] [0, 6, 11, 13] [] (fr' := [(0, .int .i64 a0), (6, .int .i64 (IntKind.wrap .i64 (a0 + a1))), (11, .bool (decide (a0 ≥ 0))), (13, .bool (decide (a1 ≥ 0)))]) (bx' := []) (by kernel_rfl) ?_
    refine O.q (v := .bool false) (some 14) (Qu.as (congrArg Value.bool hc1) (Qu.binT (op := .eql) (t := 4) (t' := 4) (x := .tmp 11) (y := .tmp 13) (u := .bool (decide (a0 ≥ 0))) (v := .bool (decide (a1 ≥ 0))) (by kernel_rfl) (by kernel_rfl) (by kernel_rfl) (by kernel_rfl))) (by kernel_rfl) ?_
    refine O.pure 7 [] [6, 21] [] (fr' := [(6, .int .i64 (IntKind.wrap .i64 (a0 + a1))), (21, .bool false)]) (bx' := []) (by kernel_rfl) ?_
    refine O.nil (by kernel_rfl) ?_
    refine J.cond (o := .tmp 21) false (by kernel_rfl) (by kernel_rfl) ?_
    refine J.skip (by kernel_rfl) ?_
    refine J.seq (by kernel_rfl) ?_
    refine J.region (by kernel_rfl) ?_
    refine O.pure 3 [] [4, 5] [] (fr' := [(4, .int .i64 (IntKind.wrap .i64 (a0 + a1))), (5, .bool true)]) (bx' := []) (by kernel_rfl) ?_
    refine O.nil (by kernel_rfl) ?_
    obtain rfl := Option.some.inj H
    exact J.doneS [] [] [] [] [] () (vs := [.int .i64 (IntKind.wrap .i64 (a0 + a1)), .bool true]) (by kernel_rfl) (by kernel_rfl) (by kernel_rfl) (by kernel_rfl) (by kernel_rfl) (by decide)
/-! ### haywain/prog.rules$1: function 33 -/
def prog_rules_1_f33.f (K : Nat) (a0 : Int) (a1 : S59) : Option (Int × Bool) := (num_Add.f K a0 a1.f2).bind fun x1_3 => some ((x1_3.1, x1_3.2))
set_option maxRecDepth 100000 in
set_option maxHeartbeats 1000000 in
theorem prog_rules_1_f33.con (K : Nat) (a0 : Int) (a1 : S59) (r : (Int × Bool)) (X : Nat → Nat → Prop) (w : World) (hS : St X w [] [] [] [] [] w) (H : prog_rules_1_f33.f K a0 a1 = some r) :
    Cn Try.prog 33 [.int .i64 a0, .agg #[.int .i64 a1.f0, .int .i64 a1.f1, .int .i64 a1.f2]] X w [] (fun i : Unit => .tuple #[.int .i64 r.1, .bool r.2]) (fun i => []) (fun i => []) (fun i => []) := by
  refine Cn.of Try.func33 (by kernel_rfl) hS ?_
  unfold prog_rules_1_f33.f at H
  refine J.seq (by kernel_rfl) ?_
  refine J.region (by kernel_rfl) ?_
  refine O.e (some 3) (Ev.box (t := 59) (x := .tmp 1) (v := .agg #[.int .i64 a1.f0, .int .i64 a1.f1, .int .i64 a1.f2]) (by kernel_rfl) (by kernel_rfl)) (by kernel_rfl) (fun p0_0 => ?_)
  refine O.pure 2 [] [0, 3] [] (fr' := [(0, .int .i64 a0), (3, .pointer (some ⟨p0_0, 0, none⟩))]) (bx' := [⟨p0_0, [.int .i64 a1.f0, .int .i64 a1.f1, .int .i64 a1.f2], 59⟩]) (by kernel_rfl) ?_
  refine O.nil (by kernel_rfl) ?_
  refine J.seq (by kernel_rfl) ?_
  obtain ⟨x1_3, hx1_3, H⟩ := bindE H
  refine J.region (by kernel_rfl) ?_
  refine O.pure 3 [(0, 2)] [6, 8] [p0_0, 2] (fr' := [(6, .int .i64 a0), (8, .int .i64 a1.f2)]) (bx' := [⟨p0_0, [.int .i64 a1.f0, .int .i64 a1.f1, .int .i64 a1.f2], 59⟩]) (by kernel_rfl) ?_
  refine O.e (some 9) (Ev.call0 (xs := [.tmp 6, .tmp 8]) [] (by kernel_rfl) (by kernel_rfl) (fun w hS => num_Add.con K a0 a1.f2  _ _ w hS hx1_3)) (by kernel_rfl) (fun _ => ?_)
  refine O.pure 4 [] [4, 5] [] (fr' := [(4, .int .i64 x1_3.1), (5, .bool x1_3.2)]) (bx' := [⟨p0_0, [.int .i64 a1.f0, .int .i64 a1.f1, .int .i64 a1.f2], 59⟩]) (by kernel_rfl) ?_
  refine O.nil (by kernel_rfl) ?_
  obtain rfl := Option.some.inj H
  exact J.doneS [] [] [] [] [] () (vs := [.int .i64 x1_3.1, .bool x1_3.2]) (by kernel_rfl) (by kernel_rfl) (by kernel_rfl) (by kernel_rfl) (by kernel_rfl) (by decide)
/-! ### haywain/prog.rules$2: function 34 -/
def prog_rules_2_f34.f (K : Nat) (a0 : Int) (a1 : S59) : Option (Int × Bool) := (num_Add.f K a0 1).bind fun x1_1 => some ((x1_1.1, x1_1.2))
set_option maxRecDepth 100000 in
set_option maxHeartbeats 1000000 in
theorem prog_rules_2_f34.con (K : Nat) (a0 : Int) (a1 : S59) (r : (Int × Bool)) (X : Nat → Nat → Prop) (w : World) (hS : St X w [] [] [] [] [] w) (H : prog_rules_2_f34.f K a0 a1 = some r) :
    Cn Try.prog 34 [.int .i64 a0, .agg #[.int .i64 a1.f0, .int .i64 a1.f1, .int .i64 a1.f2]] X w [] (fun i : Unit => .tuple #[.int .i64 r.1, .bool r.2]) (fun i => []) (fun i => []) (fun i => []) := by
  refine Cn.of Try.func34 (by kernel_rfl) hS ?_
  unfold prog_rules_2_f34.f at H
  refine J.seq (by kernel_rfl) ?_
  refine J.region (by kernel_rfl) ?_
  refine O.e (some 3) (Ev.box (t := 59) (x := .tmp 1) (v := .agg #[.int .i64 a1.f0, .int .i64 a1.f1, .int .i64 a1.f2]) (by kernel_rfl) (by kernel_rfl)) (by kernel_rfl) (fun p0_0 => ?_)
  refine O.pure 2 [] [0] [] (fr' := [(0, .int .i64 a0)]) (bx' := [⟨p0_0, [.int .i64 a1.f0, .int .i64 a1.f1, .int .i64 a1.f2], 59⟩]) (by kernel_rfl) ?_
  refine O.nil (by kernel_rfl) ?_
  refine J.seq (by kernel_rfl) ?_
  obtain ⟨x1_1, hx1_1, H⟩ := bindE H
  refine J.region (by kernel_rfl) ?_
  refine O.pure 1 [] [6] [] (fr' := [(6, .int .i64 a0)]) (bx' := [⟨p0_0, [.int .i64 a1.f0, .int .i64 a1.f1, .int .i64 a1.f2], 59⟩]) (by kernel_rfl) ?_
  refine O.e (some 7) (Ev.call0 (xs := [.tmp 6, .const (.int .i64 1)]) [] (by kernel_rfl) (by kernel_rfl) (fun w hS => num_Add.con K a0 1  _ _ w hS hx1_1)) (by kernel_rfl) (fun _ => ?_)
  refine O.pure 4 [] [4, 5] [] (fr' := [(4, .int .i64 x1_1.1), (5, .bool x1_1.2)]) (bx' := [⟨p0_0, [.int .i64 a1.f0, .int .i64 a1.f1, .int .i64 a1.f2], 59⟩]) (by kernel_rfl) ?_
  refine O.nil (by kernel_rfl) ?_
  obtain rfl := Option.some.inj H
  exact J.doneS [] [] [] [] [] () (vs := [.int .i64 x1_1.1, .bool x1_1.2]) (by kernel_rfl) (by kernel_rfl) (by kernel_rfl) (by kernel_rfl) (by kernel_rfl) (by decide)
/-! ### haywain/prog.rules$3: function 35 -/
def prog_rules_3_f35.f (K : Nat) (a0 : S61) (a1 : Int) : Option Int := some (a1)
set_option maxRecDepth 100000 in
set_option maxHeartbeats 1000000 in
theorem prog_rules_3_f35.con (K : Nat) (a0 : S61) (a1 : Int) (r : Int) (X : Nat → Nat → Prop) (w : World) (hS : St X w [] [] [] [] [] w) (H : prog_rules_3_f35.f K a0 a1 = some r) :
    Cn Try.prog 35 [.agg #[.int .i64 a0.f0, .int .i64 a0.f1, .int .i64 a0.f2, .int .i64 a0.f3], .int .i64 a1] X w [] (fun i : Unit => .int .i64 r) (fun i => []) (fun i => []) (fun i => []) := by
  refine Cn.of Try.func35 (by kernel_rfl) hS ?_
  unfold prog_rules_3_f35.f at H
  refine J.seq (by kernel_rfl) ?_
  refine J.region (by kernel_rfl) ?_
  refine O.e (some 2) (Ev.box (t := 61) (x := .tmp 0) (v := .agg #[.int .i64 a0.f0, .int .i64 a0.f1, .int .i64 a0.f2, .int .i64 a0.f3]) (by kernel_rfl) (by kernel_rfl)) (by kernel_rfl) (fun p0_0 => ?_)
  refine O.pure 1 [] [1] [] (fr' := [(1, .int .i64 a1)]) (bx' := [⟨p0_0, [.int .i64 a0.f0, .int .i64 a0.f1, .int .i64 a0.f2, .int .i64 a0.f3], 61⟩]) (by kernel_rfl) ?_
  refine O.nil (by kernel_rfl) ?_
  refine J.seq (by kernel_rfl) ?_
  refine J.region (by kernel_rfl) ?_
  refine O.pure 2 [] [4] [] (fr' := [(4, .int .i64 a1)]) (bx' := [⟨p0_0, [.int .i64 a0.f0, .int .i64 a0.f1, .int .i64 a0.f2, .int .i64 a0.f3], 61⟩]) (by kernel_rfl) ?_
  refine O.nil (by kernel_rfl) ?_
  obtain rfl := Option.some.inj H
  exact J.doneS [] [] [] [] [] () (vs := [.int .i64 a1]) (by kernel_rfl) (by kernel_rfl) (by kernel_rfl) (by kernel_rfl) (by kernel_rfl) (by decide)
/-! ### haywain/prog.rules$4: function 37 -/
def prog_rules_4_f37.f (K : Nat) (a0 : S61) (a1 : Int) : Option Int := (remO (IntKind.wrap .i64 ((IntKind.wrap .i64 ((IntKind.wrap .i64 (31 * a1)) * a1)) + 7)) 1009).bind fun z1_5 => some (((IntKind.wrap .i64 ((IntKind.wrap .i64 ((IntKind.wrap .i64 (31 * a1)) * a1)) + 7)).tmod 1009))
set_option maxRecDepth 100000 in
set_option maxHeartbeats 1000000 in
theorem prog_rules_4_f37.con (K : Nat) (a0 : S61) (a1 : Int) (r : Int) (X : Nat → Nat → Prop) (w : World) (hS : St X w [] [] [] [] [] w) (H : prog_rules_4_f37.f K a0 a1 = some r) :
    Cn Try.prog 37 [.agg #[.int .i64 a0.f0, .int .i64 a0.f1, .int .i64 a0.f2, .int .i64 a0.f3], .int .i64 a1] X w [] (fun i : Unit => .int .i64 r) (fun i => []) (fun i => []) (fun i => []) := by
  refine Cn.of Try.func37 (by kernel_rfl) hS ?_
  unfold prog_rules_4_f37.f at H
  refine J.seq (by kernel_rfl) ?_
  refine J.region (by kernel_rfl) ?_
  refine O.e (some 2) (Ev.box (t := 61) (x := .tmp 0) (v := .agg #[.int .i64 a0.f0, .int .i64 a0.f1, .int .i64 a0.f2, .int .i64 a0.f3]) (by kernel_rfl) (by kernel_rfl)) (by kernel_rfl) (fun p0_0 => ?_)
  refine O.pure 1 [] [1] [] (fr' := [(1, .int .i64 a1)]) (bx' := [⟨p0_0, [.int .i64 a0.f0, .int .i64 a0.f1, .int .i64 a0.f2, .int .i64 a0.f3], 61⟩]) (by kernel_rfl) ?_
  refine O.nil (by kernel_rfl) ?_
  refine J.seq (by kernel_rfl) ?_
  obtain ⟨z1_5, hz1_5, H⟩ := bindE H
  have hz1_5a := (remE hz1_5).1
  refine J.region (by kernel_rfl) ?_
  refine O.pure 5 [] [9] [] (fr' := [(9, .int .i64 (IntKind.wrap .i64 ((IntKind.wrap .i64 ((IntKind.wrap .i64 (31 * a1)) * a1)) + 7)))]) (bx' := [⟨p0_0, [.int .i64 a0.f0, .int .i64 a0.f1, .int .i64 a0.f2, .int .i64 a0.f3], 61⟩]) (by kernel_rfl) ?_
  refine O.q (v := .int .i64 ((IntKind.wrap .i64 ((IntKind.wrap .i64 ((IntKind.wrap .i64 (31 * a1)) * a1)) + 7)).tmod 1009)) (some 10) (Qu.rem (t := 3) (t' := 3) (x := .tmp 9) (y := .const (.int .i64 1009)) (a := (IntKind.wrap .i64 ((IntKind.wrap .i64 ((IntKind.wrap .i64 (31 * a1)) * a1)) + 7))) (b := 1009) (by kernel_rfl) (by kernel_rfl) (by kernel_rfl) hz1_5a) (by kernel_rfl) ?_
  refine O.pure 1 [] [4] [] (fr' := [(4, .int .i64 ((IntKind.wrap .i64 ((IntKind.wrap .i64 ((IntKind.wrap .i64 (31 * a1)) * a1)) + 7)).tmod 1009))]) (bx' := [⟨p0_0, [.int .i64 a0.f0, .int .i64 a0.f1, .int .i64 a0.f2, .int .i64 a0.f3], 61⟩]) (by kernel_rfl) ?_
  refine O.nil (by kernel_rfl) ?_
  obtain rfl := Option.some.inj H
  exact J.doneS [] [] [] [] [] () (vs := [.int .i64 ((IntKind.wrap .i64 ((IntKind.wrap .i64 ((IntKind.wrap .i64 (31 * a1)) * a1)) + 7)).tmod 1009)]) (by kernel_rfl) (by kernel_rfl) (by kernel_rfl) (by kernel_rfl) (by kernel_rfl) (by decide)
/-! ### haywain/prog.rules$5: function 38 -/
def prog_rules_5_f38.f (K : Nat) (a0 : Int) (a1 : Int) : Option Bool := some ((decide (a0 > a1)))
set_option maxRecDepth 100000 in
set_option maxHeartbeats 1000000 in
theorem prog_rules_5_f38.con (K : Nat) (a0 : Int) (a1 : Int) (r : Bool) (X : Nat → Nat → Prop) (w : World) (hS : St X w [] [] [] [] [] w) (H : prog_rules_5_f38.f K a0 a1 = some r) :
    Cn Try.prog 38 [.int .i64 a0, .int .i64 a1] X w [] (fun i : Unit => .bool r) (fun i => []) (fun i => []) (fun i => []) := by
  refine Cn.of Try.func38 (by kernel_rfl) hS ?_
  unfold prog_rules_5_f38.f at H
  refine J.seq (by kernel_rfl) ?_
  refine J.region (by kernel_rfl) ?_
  refine O.pure 1 [] [0, 1] [] (fr' := [(0, .int .i64 a0), (1, .int .i64 a1)]) (bx' := []) (by kernel_rfl) ?_
  refine O.nil (by kernel_rfl) ?_
  refine J.seq (by kernel_rfl) ?_
  refine J.region (by kernel_rfl) ?_
  refine O.pure 4 [] [4] [] (fr' := [(4, .bool (decide (a0 > a1)))]) (bx' := []) (by kernel_rfl) ?_
  refine O.nil (by kernel_rfl) ?_
  obtain rfl := Option.some.inj H
  exact J.doneS [] [] [] [] [] () (vs := [.bool (decide (a0 > a1))]) (by kernel_rfl) (by kernel_rfl) (by kernel_rfl) (by kernel_rfl) (by kernel_rfl) (by decide)
/-! ### haywain/prog.rules$6: function 39 -/
def prog_rules_6_f39.f (K : Nat) (a0 : S61) (a1 : Int) : Option Int := some (1000000)
set_option maxRecDepth 100000 in
set_option maxHeartbeats 1000000 in
theorem prog_rules_6_f39.con (K : Nat) (a0 : S61) (a1 : Int) (r : Int) (X : Nat → Nat → Prop) (w : World) (hS : St X w [] [] [] [] [] w) (H : prog_rules_6_f39.f K a0 a1 = some r) :
    Cn Try.prog 39 [.agg #[.int .i64 a0.f0, .int .i64 a0.f1, .int .i64 a0.f2, .int .i64 a0.f3], .int .i64 a1] X w [] (fun i : Unit => .int .i64 r) (fun i => []) (fun i => []) (fun i => []) := by
  refine Cn.of Try.func39 (by kernel_rfl) hS ?_
  unfold prog_rules_6_f39.f at H
  refine J.seq (by kernel_rfl) ?_
  refine J.region (by kernel_rfl) ?_
  refine O.e (some 2) (Ev.box (t := 61) (x := .tmp 0) (v := .agg #[.int .i64 a0.f0, .int .i64 a0.f1, .int .i64 a0.f2, .int .i64 a0.f3]) (by kernel_rfl) (by kernel_rfl)) (by kernel_rfl) (fun p0_0 => ?_)
  refine O.pure 1 [] [] [] (fr' := []) (bx' := [⟨p0_0, [.int .i64 a0.f0, .int .i64 a0.f1, .int .i64 a0.f2, .int .i64 a0.f3], 61⟩]) (by kernel_rfl) ?_
  refine O.nil (by kernel_rfl) ?_
  refine J.seq (by kernel_rfl) ?_
  refine J.region (by kernel_rfl) ?_
  refine O.pure 1 [] [4] [] (fr' := [(4, .int .i64 1000000)]) (bx' := [⟨p0_0, [.int .i64 a0.f0, .int .i64 a0.f1, .int .i64 a0.f2, .int .i64 a0.f3], 61⟩]) (by kernel_rfl) ?_
  refine O.nil (by kernel_rfl) ?_
  obtain rfl := Option.some.inj H
  exact J.doneS [] [] [] [] [] () (vs := [.int .i64 1000000]) (by kernel_rfl) (by kernel_rfl) (by kernel_rfl) (by kernel_rfl) (by kernel_rfl) (by decide)
/-! ### haywain/prog.rules: function 28 -/
def prog_rules.v : Nat → Value
  | 0 => .tuple #[.agg #[.func (.func 31) #[] #[], .func (.func 32) #[] #[], .bool true, .func (.func 33) #[] #[]], .bool true]
  | 1 => .tuple #[.agg #[.func (.func 31) #[] #[], .func (.func 32) #[] #[], .bool true, .func (.func 34) #[] #[]], .bool true]
  | 2 => .tuple #[.agg #[.func (.func 35) #[] #[], .func (.func 32) #[] #[], .bool false, .func (.func 36) #[] #[]], .bool true]
  | 3 => .tuple #[.agg #[.func (.func 37) #[] #[], .func (.func 38) #[] #[], .bool false, .func (.func 36) #[] #[]], .bool true]
  | 4 => .tuple #[.agg #[.func (.func 39) #[] #[], .nilFunc, .bool false, .func (.func 36) #[] #[]], .bool true]
  | 5 => .tuple #[.agg #[.nilFunc, .nilFunc, .bool false, .nilFunc], .bool false]
  | _ => undef
def prog_rules.f (K : Nat) (a0 : Int) : Option Nat := cond (a0 == 1) (some 0) (cond (a0 == 3) (some 1) (cond (a0 == 2) (some 2) (cond (a0 == 4) (some 3) (cond (a0 == 5) (some 4) (some 5)))))
set_option maxRecDepth 100000 in
set_option maxHeartbeats 1000000 in
theorem prog_rules.con (K : Nat) (a0 : Int) (r : Nat) (X : Nat → Nat → Prop) (w : World) (hS : St X w [] [] [] [] [] w) (H : prog_rules.f K a0 = some r) :
    Cn Try.prog 28 [.int .i64 a0] X w [] (fun _ : Unit => prog_rules.v r) (fun i => []) (fun i => []) (fun i => []) := by
  refine Cn.of Try.func28 (by kernel_rfl) hS ?_
  unfold prog_rules.f at H
  refine J.seq (by kernel_rfl) ?_
  refine J.region (by kernel_rfl) ?_
  refine O.e (some 2) (Ev.alloc (t := 54) (z := .agg #[.nilFunc, .nilFunc, .bool false, .nilFunc]) (by kernel_rfl) (by kernel_rfl)) (by kernel_rfl) (fun p0_0 => ?_)
  refine O.pure 1 [] [0, 2] [] (fr' := [(0, .int .i64 a0), (2, .pointer (some ⟨p0_0, 0, none⟩))]) (bx' := [⟨p0_0, [.nilFunc, .nilFunc, .bool false, .nilFunc], 54⟩]) (by kernel_rfl) ?_
  refine O.nil (by kernel_rfl) ?_
  refine J.seq (by kernel_rfl) ?_
  refine J.seq (by kernel_rfl) ?_
  refine J.region (by kernel_rfl) ?_
  refine O.pure 1 [] [2, 4] [] (fr' := [(2, .pointer (some ⟨p0_0, 0, none⟩)), (4, .int .i64 a0)]) (bx' := [⟨p0_0, [.nilFunc, .nilFunc, .bool false, .nilFunc], 54⟩]) (by kernel_rfl) ?_
  refine O.nil (by kernel_rfl) ?_
  refine J.block (id := 0) (by kernel_rfl) ?_
  refine J.seq (by kernel_rfl) ?_
  refine J.region (by kernel_rfl) ?_
  refine O.pure 2 [] [2, 4, 5] [] (fr' := [(2, .pointer (some ⟨p0_0, 0, none⟩)), (4, .int .i64 a0), (5, .bool (a0 == 1))]) (bx' := [⟨p0_0, [.nilFunc, .nilFunc, .bool false, .nilFunc], 54⟩]) (by kernel_rfl) ?_
  refine O.nil (by kernel_rfl) ?_
  rcases condE H with ⟨hc1, H⟩ | ⟨hc1, H⟩
  · refine J.condT (x := .tmp 5) (t := (a0 == 1)) (by kernel_rfl) (by kernel_rfl) hc1 ?_
    refine J.seq (by kernel_rfl) ?_
    refine J.region (by kernel_rfl) ?_
    refine O.pure 3 [(0, 0)] [2, 3] [p0_0, 0] (fr' := [(2, .pointer (some ⟨p0_0, 0, none⟩)), (3, .bool true)]) (bx' := [⟨p0_0, [.func (.func 31) #[] #[], .func (.func 32) #[] #[], .bool true, .func (.func 33) #[] #[]], 54⟩]) (by kernel_rfl) ?_
    refine O.nil (by kernel_rfl) ?_
    obtain rfl := Option.some.inj H
    exact J.doneS [(0, 0)] [p0_0, 0] [] [] [] () (vs := [.agg #[.func (.func 31) #[] #[], .func (.func 32) #[] #[], .bool true, .func (.func 33) #[] #[]], .bool true]) (by kernel_rfl) (by kernel_rfl) (by kernel_rfl) (by kernel_rfl) (by kernel_rfl) (by decide)
  · refine J.condF (x := .tmp 5) (t := (a0 == 1)) (by kernel_rfl) (by kernel_rfl) hc1 ?_
    refine J.seq (by kernel_rfl) ?_
    refine J.region (by kernel_rfl) ?_
    refine O.pure 2 [] [2, 4, 8] [] (fr' := [(2, .pointer (some ⟨p0_0, 0, none⟩)), (4, .int .i64 a0), (8, .bool (a0 == 3))]) (bx' := [⟨p0_0, [.nilFunc, .nilFunc, .bool false, .nilFunc], 54⟩]) (by kernel_rfl) ?_
    refine O.nil (by kernel_rfl) ?_
    rcases condE H with ⟨hc2, H⟩ | ⟨hc2, H⟩
    · refine J.condT (x := .tmp 8) (t := (a0 == 3)) (by kernel_rfl) (by kernel_rfl) hc2 ?_
      refine J.seq (by kernel_rfl) ?_
      refine J.region (by kernel_rfl) ?_
      refine O.pure 3 [(0, 0)] [2, 3] [p0_0, 0] (fr' := [(2, .pointer (some ⟨p0_0, 0, none⟩)), (3, .bool true)]) (bx' := [⟨p0_0, [.func (.func 31) #[] #[], .func (.func 32) #[] #[], .bool true, .func (.func 34) #[] #[]], 54⟩]) (by kernel_rfl) ?_
      refine O.nil (by kernel_rfl) ?_
      obtain rfl := Option.some.inj H
      exact J.doneS [(0, 0)] [p0_0, 0] [] [] [] () (vs := [.agg #[.func (.func 31) #[] #[], .func (.func 32) #[] #[], .bool true, .func (.func 34) #[] #[]], .bool true]) (by kernel_rfl) (by kernel_rfl) (by kernel_rfl) (by kernel_rfl) (by kernel_rfl) (by decide)
    · refine J.condF (x := .tmp 8) (t := (a0 == 3)) (by kernel_rfl) (by kernel_rfl) hc2 ?_
      refine J.seq (by kernel_rfl) ?_
      refine J.region (by kernel_rfl) ?_
      refine O.pure 2 [] [2, 4, 11] [] (fr' := [(2, .pointer (some ⟨p0_0, 0, none⟩)), (4, .int .i64 a0), (11, .bool (a0 == 2))]) (bx' := [⟨p0_0, [.nilFunc, .nilFunc, .bool false, .nilFunc], 54⟩]) (by kernel_rfl) ?_
      refine O.nil (by kernel_rfl) ?_
      rcases condE H with ⟨hc3, H⟩ | ⟨hc3, H⟩
      · refine J.condT (x := .tmp 11) (t := (a0 == 2)) (by kernel_rfl) (by kernel_rfl) hc3 ?_
        refine J.seq (by kernel_rfl) ?_
        refine J.region (by kernel_rfl) ?_
        refine O.pure 3 [(0, 0)] [2, 3] [p0_0, 0] (fr' := [(2, .pointer (some ⟨p0_0, 0, none⟩)), (3, .bool true)]) (bx' := [⟨p0_0, [.func (.func 35) #[] #[], .func (.func 32) #[] #[], .bool false, .func (.func 36) #[] #[]], 54⟩]) (by kernel_rfl) ?_
        refine O.nil (by kernel_rfl) ?_
        obtain rfl := Option.some.inj H
        exact J.doneS [(0, 0)] [p0_0, 0] [] [] [] () (vs := [.agg #[.func (.func 35) #[] #[], .func (.func 32) #[] #[], .bool false, .func (.func 36) #[] #[]], .bool true]) (by kernel_rfl) (by kernel_rfl) (by kernel_rfl) (by kernel_rfl) (by kernel_rfl) (by decide)
      · refine J.condF (x := .tmp 11) (t := (a0 == 2)) (by kernel_rfl) (by kernel_rfl) hc3 ?_
        refine J.seq (by kernel_rfl) ?_
        refine J.region (by kernel_rfl) ?_
        refine O.pure 2 [] [2, 4, 14] [] (fr' := [(2, .pointer (some ⟨p0_0, 0, none⟩)), (4, .int .i64 a0), (14, .bool (a0 == 4))]) (bx' := [⟨p0_0, [.nilFunc, .nilFunc, .bool false, .nilFunc], 54⟩]) (by kernel_rfl) ?_
        refine O.nil (by kernel_rfl) ?_
        rcases condE H with ⟨hc4, H⟩ | ⟨hc4, H⟩
        · refine J.condT (x := .tmp 14) (t := (a0 == 4)) (by kernel_rfl) (by kernel_rfl) hc4 ?_
          refine J.seq (by kernel_rfl) ?_
          refine J.region (by kernel_rfl) ?_
          refine O.pure 3 [(0, 0)] [2, 3] [p0_0, 0] (fr' := [(2, .pointer (some ⟨p0_0, 0, none⟩)), (3, .bool true)]) (bx' := [⟨p0_0, [.func (.func 37) #[] #[], .func (.func 38) #[] #[], .bool false, .func (.func 36) #[] #[]], 54⟩]) (by kernel_rfl) ?_
          refine O.nil (by kernel_rfl) ?_
          obtain rfl := Option.some.inj H
          exact J.doneS [(0, 0)] [p0_0, 0] [] [] [] () (vs := [.agg #[.func (.func 37) #[] #[], .func (.func 38) #[] #[], .bool false, .func (.func 36) #[] #[]], .bool true]) (by kernel_rfl) (by kernel_rfl) (by kernel_rfl) (by kernel_rfl) (by kernel_rfl) (by decide)
        · refine J.condF (x := .tmp 14) (t := (a0 == 4)) (by kernel_rfl) (by kernel_rfl) hc4 ?_
          refine J.seq (by kernel_rfl) ?_
          refine J.region (by kernel_rfl) ?_
          refine O.pure 2 [] [2, 17] [] (fr' := [(2, .pointer (some ⟨p0_0, 0, none⟩)), (17, .bool (a0 == 5))]) (bx' := [⟨p0_0, [.nilFunc, .nilFunc, .bool false, .nilFunc], 54⟩]) (by kernel_rfl) ?_
          refine O.nil (by kernel_rfl) ?_
          rcases condE H with ⟨hc5, H⟩ | ⟨hc5, H⟩
          · refine J.condT (x := .tmp 17) (t := (a0 == 5)) (by kernel_rfl) (by kernel_rfl) hc5 ?_
            refine J.seq (by kernel_rfl) ?_
            refine J.region (by kernel_rfl) ?_
            refine O.pure 3 [(0, 0)] [2, 3] [p0_0, 0] (fr' := [(2, .pointer (some ⟨p0_0, 0, none⟩)), (3, .bool true)]) (bx' := [⟨p0_0, [.func (.func 39) #[] #[], .nilFunc, .bool false, .func (.func 36) #[] #[]], 54⟩]) (by kernel_rfl) ?_
            refine O.nil (by kernel_rfl) ?_
            obtain rfl := Option.some.inj H
            exact J.doneS [(0, 0)] [p0_0, 0] [] [] [] () (vs := [.agg #[.func (.func 39) #[] #[], .nilFunc, .bool false, .func (.func 36) #[] #[]], .bool true]) (by kernel_rfl) (by kernel_rfl) (by kernel_rfl) (by kernel_rfl) (by kernel_rfl) (by decide)
          · refine J.condF (x := .tmp 17) (t := (a0 == 5)) (by kernel_rfl) (by kernel_rfl) hc5 ?_
            refine J.skip (by kernel_rfl) ?_
            refine J.out ?_
            refine J.seq (by kernel_rfl) ?_
            refine J.region (by kernel_rfl) ?_
            refine O.pure 3 [(0, 0)] [2, 3] [p0_0, 0] (fr' := [(2, .pointer (some ⟨p0_0, 0, none⟩)), (3, .bool false)]) (bx' := [⟨p0_0, [.nilFunc, .nilFunc, .bool false, .nilFunc], 54⟩]) (by kernel_rfl) ?_
            refine O.nil (by kernel_rfl) ?_
            obtain rfl := Option.some.inj H
            exact J.doneS [(0, 0)] [p0_0, 0] [] [] [] () (vs := [.agg #[.nilFunc, .nilFunc, .bool false, .nilFunc], .bool false]) (by kernel_rfl) (by kernel_rfl) (by kernel_rfl) (by kernel_rfl) (by kernel_rfl) (by decide)
/-! ### haywain/prog.Fold: function 26 -/
def prog_Fold.f (K : Nat) (a0 : Int) (a1 : Int) (a2 : Int) : Option (Int × Int) := (prog_rules.f K a0).bind fun x1_1 => cond (x1_1 == 0) ((prog_less.f K a2 a1).bind fun x9_4 => cond x9_4 (some ((a2, 0))) (some ((a1, 0)))) (cond (x1_1 == 1) ((prog_less.f K a2 a1).bind fun x9_4 => cond x9_4 (some ((a2, 0))) (some ((a1, 0)))) (cond (x1_1 == 2) ((prog_less.f K a2 a1).bind fun x9_4 => cond x9_4 (some ((a2, 0))) (some ((a1, 0)))) (cond (x1_1 == 3) ((prog_rules_5_f38.f K a2 a1).bind fun x9_4 => cond x9_4 (some ((a2, 0))) (some ((a1, 0)))) (cond (x1_1 == 4) ((num_Add.f K a1 a2).bind fun x5_2 => cond (!x5_2.2) (some ((0, 8))) (some ((x5_2.1, 0)))) (cond (x1_1 == 5) (some ((0, 1))) (none))))))
set_option maxRecDepth 100000 in
set_option maxHeartbeats 1000000 in
theorem prog_Fold.con (K : Nat) (a0 : Int) (a1 : Int) (a2 : Int) (r : (Int × Int)) (X : Nat → Nat → Prop) (w : World) (hS : St X w [] [] [] [] [] w) (H : prog_Fold.f K a0 a1 a2 = some r) :
    Cn Try.prog 26 [.int .i64 a0, .int .i64 a1, .int .i64 a2] X w [] (fun i : Unit => .tuple #[.int .i64 r.1, .int .i64 r.2]) (fun i => []) (fun i => []) (fun i => []) := by
  refine Cn.of Try.func26 (by kernel_rfl) hS ?_
  unfold prog_Fold.f at H
  refine J.seq (by kernel_rfl) ?_
  refine J.region (by kernel_rfl) ?_
  refine O.pure 2 [] [0, 1, 2] [] (fr' := [(0, .int .i64 a0), (1, .int .i64 a1), (2, .int .i64 a2)]) (bx' := []) (by kernel_rfl) ?_
  refine O.nil (by kernel_rfl) ?_
  refine J.seq (by kernel_rfl) ?_
  obtain ⟨x1_1, hx1_1, H⟩ := bindE H
  rcases condE H with ⟨hc1, hH⟩ | ⟨hc1, hH⟩
  · replace H := hH
    clear hH
    obtain rfl : x1_1 = 0 := by simpa using hc1
    refine J.region (by kernel_rfl) ?_
    refine O.pure 1 [] [1, 2, 13] [] (fr' := [(1, .int .i64 a1), (2, .int .i64 a2), (13, .int .i64 a0)]) (bx' := []) (by kernel_rfl) ?_
    refine O.e (some 14) (Ev.call0 (xs := [.tmp 13]) [] (by kernel_rfl) (by kernel_rfl) (fun w hS => prog_rules.con K a0 _ _ w hS hx1_1)) (by kernel_rfl) (fun _ => ?_)
    refine O.pure 3 [] [1, 2, 15, 16] [] (fr' := [(1, .int .i64 a1), (2, .int .i64 a2), (15, .agg #[.func (.func 31) #[] #[], .func (.func 32) #[] #[], .bool true, .func (.func 33) #[] #[]]), (16, .bool true)]) (bx' := []) (by kernel_rfl) ?_
    refine O.e (some 8) (Ev.alloc (t := 54) (z := .agg #[.nilFunc, .nilFunc, .bool false, .nilFunc]) (by kernel_rfl) (by kernel_rfl)) (by kernel_rfl) (fun p1_5 => ?_)
    refine O.pure 2 [(0, 0)] [1, 2, 8, 9] [p1_5, 0] (fr' := [(1, .int .i64 a1), (2, .int .i64 a2), (8, .pointer (some ⟨p1_5, 0, none⟩)), (9, .bool true)]) (bx' := [⟨p1_5, [.func (.func 31) #[] #[], .func (.func 32) #[] #[], .bool true, .func (.func 33) #[] #[]], 54⟩]) (by kernel_rfl) ?_
    refine O.nil (by kernel_rfl) ?_
    refine J.seq (by kernel_rfl) ?_
    refine J.block (id := 0) (by kernel_rfl) ?_
    refine J.seq (by kernel_rfl) ?_
    refine J.region (by kernel_rfl) ?_
    refine O.pure 3 [] [1, 2, 8, 17] [] (fr' := [(1, .int .i64 a1), (2, .int .i64 a2), (8, .pointer (some ⟨p1_5, 0, none⟩)), (17, .bool false)]) (bx' := [⟨p1_5, [.func (.func 31) #[] #[], .func (.func 32) #[] #[], .bool true, .func (.func 33) #[] #[]], 54⟩]) (by kernel_rfl) ?_
    refine O.nil (by kernel_rfl) ?_
    refine J.cond (o := .tmp 17) false (by kernel_rfl) (by kernel_rfl) ?_
    refine J.seq (by kernel_rfl) ?_
    refine J.region (by kernel_rfl) ?_
    refine O.pure 2 [(0, 1)] [1, 2, 8, 22] [p1_5, 1] (fr' := [(1, .int .i64 a1), (2, .int .i64 a2), (8, .pointer (some ⟨p1_5, 0, none⟩)), (22, .func (.func 32) #[] #[])]) (bx' := [⟨p1_5, [.func (.func 31) #[] #[], .func (.func 32) #[] #[], .bool true, .func (.func 33) #[] #[]], 54⟩]) (by kernel_rfl) ?_
    refine O.q (v := .bool false) (some 23) (Qu.binT (op := .eql) (t := 51) (t' := 51) (x := .tmp 22) (y := .const (.nilFunc)) (u := .func (.func 32) #[] #[]) (v := .nilFunc) (by kernel_rfl) (by kernel_rfl) (by kernel_rfl) (by kernel_rfl)) (by kernel_rfl) ?_
    refine O.pure 1 [] [1, 2, 8, 20] [] (fr' := [(1, .int .i64 a1), (2, .int .i64 a2), (8, .pointer (some ⟨p1_5, 0, none⟩)), (20, .bool false)]) (bx' := [⟨p1_5, [.func (.func 31) #[] #[], .func (.func 32) #[] #[], .bool true, .func (.func 33) #[] #[]], 54⟩]) (by kernel_rfl) ?_
    refine O.nil (by kernel_rfl) ?_
    refine J.cond (o := .tmp 20) false (by kernel_rfl) (by kernel_rfl) ?_
    refine J.seq (by kernel_rfl) ?_
    obtain ⟨x9_4, hx9_4, H⟩ := bindE H
    refine J.region (by kernel_rfl) ?_
    refine O.pure 4 [(0, 1)] [1, 2, 35, 36, 37] [p1_5, 1] (fr' := [(1, .int .i64 a1), (2, .int .i64 a2), (35, .func (.func 32) #[] #[]), (36, .int .i64 a2), (37, .int .i64 a1)]) (bx' := [⟨p1_5, [.func (.func 31) #[] #[], .func (.func 32) #[] #[], .bool true, .func (.func 33) #[] #[]], 54⟩]) (by kernel_rfl) ?_
    refine O.e (some 38) (Ev.callF (g := 32) (caps := []) (vs := [.int .i64 a2, .int .i64 a1]) (xs := [.tmp 36, .tmp 37]) [] (by kernel_rfl) (by kernel_rfl) (fun w hS => prog_less.con K a2 a1  _ _ w hS hx9_4)) (by kernel_rfl) (fun _ => ?_)
    refine O.pure 1 [] [1, 2, 33] [] (fr' := [(1, .int .i64 a1), (2, .int .i64 a2), (33, .bool x9_4)]) (bx' := [⟨p1_5, [.func (.func 31) #[] #[], .func (.func 32) #[] #[], .bool true, .func (.func 33) #[] #[]], 54⟩]) (by kernel_rfl) ?_
    refine O.nil (by kernel_rfl) ?_
    rcases condE H with ⟨hc2, H⟩ | ⟨hc2, H⟩
    · refine J.condT (x := .tmp 33) (t := x9_4) (by kernel_rfl) (by kernel_rfl) hc2 ?_
      refine J.seq (by kernel_rfl) ?_
      refine J.region (by kernel_rfl) ?_
      refine O.pure 3 [] [6, 7] [] (fr' := [(6, .int .i64 a2), (7, .int .i64 0)]) (bx' := [⟨p1_5, [.func (.func 31) #[] #[], .func (.func 32) #[] #[], .bool true, .func (.func 33) #[] #[]], 54⟩]) (by kernel_rfl) ?_
      refine O.nil (by kernel_rfl) ?_
      obtain rfl := Option.some.inj H
      exact J.doneS [] [] [] [] [] () (vs := [.int .i64 a2, .int .i64 0]) (by kernel_rfl) (by kernel_rfl) (by kernel_rfl) (by kernel_rfl) (by kernel_rfl) (by decide)
    · refine J.condF (x := .tmp 33) (t := x9_4) (by kernel_rfl) (by kernel_rfl) hc2 ?_
      refine J.skip (by kernel_rfl) ?_
      refine J.out ?_
      refine J.seq (by kernel_rfl) ?_
      refine J.region (by kernel_rfl) ?_
      refine O.pure 3 [] [6, 7] [] (fr' := [(6, .int .i64 a1), (7, .int .i64 0)]) (bx' := [⟨p1_5, [.func (.func 31) #[] #[], .func (.func 32) #[] #[], .bool true, .func (.func 33) #[] #[]], 54⟩]) (by kernel_rfl) ?_
      refine O.nil (by kernel_rfl) ?_
      obtain rfl := Option.some.inj H
      exact J.doneS [] [] [] [] [] () (vs := [.int .i64 a1, .int .i64 0]) (by kernel_rfl) (by kernel_rfl) (by kernel_rfl) (by kernel_rfl) (by kernel_rfl) (by decide)
  · replace H := hH
    clear hH
    rcases condE H with ⟨hc3, hH⟩ | ⟨hc3, hH⟩
    · replace H := hH
      clear hH
      obtain rfl : x1_1 = 1 := by simpa using hc3
      refine J.region (by kernel_rfl) ?_
      refine O.pure 1 [] [1, 2, 13] [] (fr' := [(1, .int .i64 a1), (2, .int .i64 a2), (13, .int .i64 a0)]) (bx' := []) (by kernel_rfl) ?_
      refine O.e (some 14) (Ev.call0 (xs := [.tmp 13]) [] (by kernel_rfl) (by kernel_rfl) (fun w hS => prog_rules.con K a0 _ _ w hS hx1_1)) (by kernel_rfl) (fun _ => ?_)
      refine O.pure 3 [] [1, 2, 15, 16] [] (fr' := [(1, .int .i64 a1), (2, .int .i64 a2), (15, .agg #[.func (.func 31) #[] #[], .func (.func 32) #[] #[], .bool true, .func (.func 34) #[] #[]]), (16, .bool true)]) (bx' := []) (by kernel_rfl) ?_
      refine O.e (some 8) (Ev.alloc (t := 54) (z := .agg #[.nilFunc, .nilFunc, .bool false, .nilFunc]) (by kernel_rfl) (by kernel_rfl)) (by kernel_rfl) (fun p1_5 => ?_)
      refine O.pure 2 [(0, 0)] [1, 2, 8, 9] [p1_5, 0] (fr' := [(1, .int .i64 a1), (2, .int .i64 a2), (8, .pointer (some ⟨p1_5, 0, none⟩)), (9, .bool true)]) (bx' := [⟨p1_5, [.func (.func 31) #[] #[], .func (.func 32) #[] #[], .bool true, .func (.func 34) #[] #[]], 54⟩]) (by kernel_rfl) ?_
      refine O.nil (by kernel_rfl) ?_
      refine J.seq (by kernel_rfl) ?_
      refine J.block (id := 0) (by kernel_rfl) ?_
      refine J.seq (by kernel_rfl) ?_
      refine J.region (by kernel_rfl) ?_
      refine O.pure 3 [] [1, 2, 8, 17] [] (fr' := [(1, .int .i64 a1), (2, .int .i64 a2), (8, .pointer (some ⟨p1_5, 0, none⟩)), (17, .bool false)]) (bx' := [⟨p1_5, [.func (.func 31) #[] #[], .func (.func 32) #[] #[], .bool true, .func (.func 34) #[] #[]], 54⟩]) (by kernel_rfl) ?_
      refine O.nil (by kernel_rfl) ?_
      refine J.cond (o := .tmp 17) false (by kernel_rfl) (by kernel_rfl) ?_
      refine J.seq (by kernel_rfl) ?_
      refine J.region (by kernel_rfl) ?_
      refine O.pure 2 [(0, 1)] [1, 2, 8, 22] [p1_5, 1] (fr' := [(1, .int .i64 a1), (2, .int .i64 a2), (8, .pointer (some ⟨p1_5, 0, none⟩)), (22, .func (.func 32) #[] #[])]) (bx' := [⟨p1_5, [.func (.func 31) #[] #[], .func (.func 32) #[] #[], .bool true, .func (.func 34) #[] #[]], 54⟩]) (by kernel_rfl) ?_
      refine O.q (v := .bool false) (some 23) (Qu.binT (op := .eql) (t := 51) (t' := 51) (x := .tmp 22) (y := .const (.nilFunc)) (u := .func (.func 32) #[] #[]) (v := .nilFunc) (by kernel_rfl) (by kernel_rfl) (by kernel_rfl) (by kernel_rfl)) (by kernel_rfl) ?_
      refine O.pure 1 [] [1, 2, 8, 20] [] (fr' := [(1, .int .i64 a1), (2, .int .i64 a2), (8, .pointer (some ⟨p1_5, 0, none⟩)), (20, .bool false)]) (bx' := [⟨p1_5, [.func (.func 31) #[] #[], .func (.func 32) #[] #[], .bool true, .func (.func 34) #[] #[]], 54⟩]) (by kernel_rfl) ?_
      refine O.nil (by kernel_rfl) ?_
      refine J.cond (o := .tmp 20) false (by kernel_rfl) (by kernel_rfl) ?_
      refine J.seq (by kernel_rfl) ?_
      obtain ⟨x9_4, hx9_4, H⟩ := bindE H
      refine J.region (by kernel_rfl) ?_
      refine O.pure 4 [(0, 1)] [1, 2, 35, 36, 37] [p1_5, 1] (fr' := [(1, .int .i64 a1), (2, .int .i64 a2), (35, .func (.func 32) #[] #[]), (36, .int .i64 a2), (37, .int .i64 a1)]) (bx' := [⟨p1_5, [.func (.func 31) #[] #[], .func (.func 32) #[] #[], .bool true, .func (.func 34) #[] #[]], 54⟩]) (by kernel_rfl) ?_
      refine O.e (some 38) (Ev.callF (g := 32) (caps := []) (vs := [.int .i64 a2, .int .i64 a1]) (xs := [.tmp 36, .tmp 37]) [] (by kernel_rfl) (by kernel_rfl) (fun w hS => prog_less.con K a2 a1  _ _ w hS hx9_4)) (by kernel_rfl) (fun _ => ?_)
      refine O.pure 1 [] [1, 2, 33] [] (fr' := [(1, .int .i64 a1), (2, .int .i64 a2), (33, .bool x9_4)]) (bx' := [⟨p1_5, [.func (.func 31) #[] #[], .func (.func 32) #[] #[], .bool true, .func (.func 34) #[] #[]], 54⟩]) (by kernel_rfl) ?_
      refine O.nil (by kernel_rfl) ?_
      rcases condE H with ⟨hc4, H⟩ | ⟨hc4, H⟩
      · refine J.condT (x := .tmp 33) (t := x9_4) (by kernel_rfl) (by kernel_rfl) hc4 ?_
        refine J.seq (by kernel_rfl) ?_
        refine J.region (by kernel_rfl) ?_
        refine O.pure 3 [] [6, 7] [] (fr' := [(6, .int .i64 a2), (7, .int .i64 0)]) (bx' := [⟨p1_5, [.func (.func 31) #[] #[], .func (.func 32) #[] #[], .bool true, .func (.func 34) #[] #[]], 54⟩]) (by kernel_rfl) ?_
        refine O.nil (by kernel_rfl) ?_
        obtain rfl := Option.some.inj H
        exact J.doneS [] [] [] [] [] () (vs := [.int .i64 a2, .int .i64 0]) (by kernel_rfl) (by kernel_rfl) (by kernel_rfl) (by kernel_rfl) (by kernel_rfl) (by decide)
      · refine J.condF (x := .tmp 33) (t := x9_4) (by kernel_rfl) (by kernel_rfl) hc4 ?_
        refine J.skip (by kernel_rfl) ?_
        refine J.out ?_
        refine J.seq (by kernel_rfl) ?_
        refine J.region (by kernel_rfl) ?_
        refine O.pure 3 [] [6, 7] [] (fr' := [(6, .int .i64 a1), (7, .int .i64 0)]) (bx' := [⟨p1_5, [.func (.func 31) #[] #[], .func (.func 32) #[] #[], .bool true, .func (.func 34) #[] #[]], 54⟩]) (by kernel_rfl) ?_
        refine O.nil (by kernel_rfl) ?_
        obtain rfl := Option.some.inj H
        exact J.doneS [] [] [] [] [] () (vs := [.int .i64 a1, .int .i64 0]) (by kernel_rfl) (by kernel_rfl) (by kernel_rfl) (by kernel_rfl) (by kernel_rfl) (by decide)
    · replace H := hH
      clear hH
      rcases condE H with ⟨hc5, hH⟩ | ⟨hc5, hH⟩
      · replace H := hH
        clear hH
        obtain rfl : x1_1 = 2 := by simpa using hc5
        refine J.region (by kernel_rfl) ?_
        refine O.pure 1 [] [1, 2, 13] [] (fr' := [(1, .int .i64 a1), (2, .int .i64 a2), (13, .int .i64 a0)]) (bx' := []) (by kernel_rfl) ?_
        refine O.e (some 14) (Ev.call0 (xs := [.tmp 13]) [] (by kernel_rfl) (by kernel_rfl) (fun w hS => prog_rules.con K a0 _ _ w hS hx1_1)) (by kernel_rfl) (fun _ => ?_)
        refine O.pure 3 [] [1, 2, 15, 16] [] (fr' := [(1, .int .i64 a1), (2, .int .i64 a2), (15, .agg #[.func (.func 35) #[] #[], .func (.func 32) #[] #[], .bool false, .func (.func 36) #[] #[]]), (16, .bool true)]) (bx' := []) (by kernel_rfl) ?_
        refine O.e (some 8) (Ev.alloc (t := 54) (z := .agg #[.nilFunc, .nilFunc, .bool false, .nilFunc]) (by kernel_rfl) (by kernel_rfl)) (by kernel_rfl) (fun p1_5 => ?_)
        refine O.pure 2 [(0, 0)] [1, 2, 8, 9] [p1_5, 0] (fr' := [(1, .int .i64 a1), (2, .int .i64 a2), (8, .pointer (some ⟨p1_5, 0, none⟩)), (9, .bool true)]) (bx' := [⟨p1_5, [.func (.func 35) #[] #[], .func (.func 32) #[] #[], .bool false, .func (.func 36) #[] #[]], 54⟩]) (by kernel_rfl) ?_
        refine O.nil (by kernel_rfl) ?_
        refine J.seq (by kernel_rfl) ?_
        refine J.block (id := 0) (by kernel_rfl) ?_
        refine J.seq (by kernel_rfl) ?_
        refine J.region (by kernel_rfl) ?_
        refine O.pure 3 [] [1, 2, 8, 17] [] (fr' := [(1, .int .i64 a1), (2, .int .i64 a2), (8, .pointer (some ⟨p1_5, 0, none⟩)), (17, .bool false)]) (bx' := [⟨p1_5, [.func (.func 35) #[] #[], .func (.func 32) #[] #[], .bool false, .func (.func 36) #[] #[]], 54⟩]) (by kernel_rfl) ?_
        refine O.nil (by kernel_rfl) ?_
        refine J.cond (o := .tmp 17) false (by kernel_rfl) (by kernel_rfl) ?_
        refine J.seq (by kernel_rfl) ?_
        refine J.region (by kernel_rfl) ?_
        refine O.pure 2 [(0, 1)] [1, 2, 8, 22] [p1_5, 1] (fr' := [(1, .int .i64 a1), (2, .int .i64 a2), (8, .pointer (some ⟨p1_5, 0, none⟩)), (22, .func (.func 32) #[] #[])]) (bx' := [⟨p1_5, [.func (.func 35) #[] #[], .func (.func 32) #[] #[], .bool false, .func (.func 36) #[] #[]], 54⟩]) (by kernel_rfl) ?_
        refine O.q (v := .bool false) (some 23) (Qu.binT (op := .eql) (t := 51) (t' := 51) (x := .tmp 22) (y := .const (.nilFunc)) (u := .func (.func 32) #[] #[]) (v := .nilFunc) (by kernel_rfl) (by kernel_rfl) (by kernel_rfl) (by kernel_rfl)) (by kernel_rfl) ?_
        refine O.pure 1 [] [1, 2, 8, 20] [] (fr' := [(1, .int .i64 a1), (2, .int .i64 a2), (8, .pointer (some ⟨p1_5, 0, none⟩)), (20, .bool false)]) (bx' := [⟨p1_5, [.func (.func 35) #[] #[], .func (.func 32) #[] #[], .bool false, .func (.func 36) #[] #[]], 54⟩]) (by kernel_rfl) ?_
        refine O.nil (by kernel_rfl) ?_
        refine J.cond (o := .tmp 20) false (by kernel_rfl) (by kernel_rfl) ?_
        refine J.seq (by kernel_rfl) ?_
        obtain ⟨x9_4, hx9_4, H⟩ := bindE H
        refine J.region (by kernel_rfl) ?_
        refine O.pure 4 [(0, 1)] [1, 2, 35, 36, 37] [p1_5, 1] (fr' := [(1, .int .i64 a1), (2, .int .i64 a2), (35, .func (.func 32) #[] #[]), (36, .int .i64 a2), (37, .int .i64 a1)]) (bx' := [⟨p1_5, [.func (.func 35) #[] #[], .func (.func 32) #[] #[], .bool false, .func (.func 36) #[] #[]], 54⟩]) (by kernel_rfl) ?_
        refine O.e (some 38) (Ev.callF (g := 32) (caps := []) (vs := [.int .i64 a2, .int .i64 a1]) (xs := [.tmp 36, .tmp 37]) [] (by kernel_rfl) (by kernel_rfl) (fun w hS => prog_less.con K a2 a1  _ _ w hS hx9_4)) (by kernel_rfl) (fun _ => ?_)
        refine O.pure 1 [] [1, 2, 33] [] (fr' := [(1, .int .i64 a1), (2, .int .i64 a2), (33, .bool x9_4)]) (bx' := [⟨p1_5, [.func (.func 35) #[] #[], .func (.func 32) #[] #[], .bool false, .func (.func 36) #[] #[]], 54⟩]) (by kernel_rfl) ?_
        refine O.nil (by kernel_rfl) ?_
        rcases condE H with ⟨hc6, H⟩ | ⟨hc6, H⟩
        · refine J.condT (x := .tmp 33) (t := x9_4) (by kernel_rfl) (by kernel_rfl) hc6 ?_
          refine J.seq (by kernel_rfl) ?_
          refine J.region (by kernel_rfl) ?_
          refine O.pure 3 [] [6, 7] [] (fr' := [(6, .int .i64 a2), (7, .int .i64 0)]) (bx' := [⟨p1_5, [.func (.func 35) #[] #[], .func (.func 32) #[] #[], .bool false, .func (.func 36) #[] #[]], 54⟩]) (by kernel_rfl) ?_
          refine O.nil (by kernel_rfl) ?_
          obtain rfl := Option.some.inj H
          exact J.doneS [] [] [] [] [] () (vs := [.int .i64 a2, .int .i64 0]) (by kernel_rfl) (by kernel_rfl) (by kernel_rfl) (by kernel_rfl) (by kernel_rfl) (by decide)
        · refine J.condF (x := .tmp 33) (t := x9_4) (by kernel_rfl) (by kernel_rfl) hc6 ?_
          refine J.skip (by kernel_rfl) ?_
          refine J.out ?_
          refine J.seq (by kernel_rfl) ?_
          refine J.region (by kernel_rfl) ?_
          refine O.pure 3 [] [6, 7] [] (fr' := [(6, .int .i64 a1), (7, .int .i64 0)]) (bx' := [⟨p1_5, [.func (.func 35) #[] #[], .func (.func 32) #[] #[], .bool false, .func (.func 36) #[] #[]], 54⟩]) (by kernel_rfl) ?_
          refine O.nil (by kernel_rfl) ?_
          obtain rfl := Option.some.inj H
          exact J.doneS [] [] [] [] [] () (vs := [.int .i64 a1, .int .i64 0]) (by kernel_rfl) (by kernel_rfl) (by kernel_rfl) (by kernel_rfl) (by kernel_rfl) (by decide)
      · replace H := hH
        clear hH
        rcases condE H with ⟨hc7, hH⟩ | ⟨hc7, hH⟩
        · replace H := hH
          clear hH
          obtain rfl : x1_1 = 3 := by simpa using hc7
          refine J.region (by kernel_rfl) ?_
          refine O.pure 1 [] [1, 2, 13] [] (fr' := [(1, .int .i64 a1), (2, .int .i64 a2), (13, .int .i64 a0)]) (bx' := []) (by kernel_rfl) ?_
          refine O.e (some 14) (Ev.call0 (xs := [.tmp 13]) [] (by kernel_rfl) (by kernel_rfl) (fun w hS => prog_rules.con K a0 _ _ w hS hx1_1)) (by kernel_rfl) (fun _ => ?_)
          refine O.pure 3 [] [1, 2, 15, 16] [] (fr' := [(1, .int .i64 a1), (2, .int .i64 a2), (15, .agg #[.func (.func 37) #[] #[], .func (.func 38) #[] #[], .bool false, .func (.func 36) #[] #[]]), (16, .bool true)]) (bx' := []) (by kernel_rfl) ?_
          refine O.e (some 8) (Ev.alloc (t := 54) (z := .agg #[.nilFunc, .nilFunc, .bool false, .nilFunc]) (by kernel_rfl) (by kernel_rfl)) (by kernel_rfl) (fun p1_5 => ?_)
          refine O.pure 2 [(0, 0)] [1, 2, 8, 9] [p1_5, 0] (fr' := [(1, .int .i64 a1), (2, .int .i64 a2), (8, .pointer (some ⟨p1_5, 0, none⟩)), (9, .bool true)]) (bx' := [⟨p1_5, [.func (.func 37) #[] #[], .func (.func 38) #[] #[], .bool false, .func (.func 36) #[] #[]], 54⟩]) (by kernel_rfl) ?_
          refine O.nil (by kernel_rfl) ?_
          refine J.seq (by kernel_rfl) ?_
          refine J.block (id := 0) (by kernel_rfl) ?_
          refine J.seq (by kernel_rfl) ?_
          refine J.region (by kernel_rfl) ?_
          refine O.pure 3 [] [1, 2, 8, 17] [] (fr' := [(1, .int .i64 a1), (2, .int .i64 a2), (8, .pointer (some ⟨p1_5, 0, none⟩)), (17, .bool false)]) (bx' := [⟨p1_5, [.func (.func 37) #[] #[], .func (.func 38) #[] #[], .bool false, .func (.func 36) #[] #[]], 54⟩]) (by kernel_rfl) ?_
          refine O.nil (by kernel_rfl) ?_
          refine J.cond (o := .tmp 17) false (by kernel_rfl) (by kernel_rfl) ?_
          refine J.seq (by kernel_rfl) ?_
          refine J.region (by kernel_rfl) ?_
          refine O.pure 2 [(0, 1)] [1, 2, 8, 22] [p1_5, 1] (fr' := [(1, .int .i64 a1), (2, .int .i64 a2), (8, .pointer (some ⟨p1_5, 0, none⟩)), (22, .func (.func 38) #[] #[])]) (bx' := [⟨p1_5, [.func (.func 37) #[] #[], .func (.func 38) #[] #[], .bool false, .func (.func 36) #[] #[]], 54⟩]) (by kernel_rfl) ?_
          refine O.q (v := .bool false) (some 23) (Qu.binT (op := .eql) (t := 51) (t' := 51) (x := .tmp 22) (y := .const (.nilFunc)) (u := .func (.func 38) #[] #[]) (v := .nilFunc) (by kernel_rfl) (by kernel_rfl) (by kernel_rfl) (by kernel_rfl)) (by kernel_rfl) ?_
          refine O.pure 1 [] [1, 2, 8, 20] [] (fr' := [(1, .int .i64 a1), (2, .int .i64 a2), (8, .pointer (some ⟨p1_5, 0, none⟩)), (20, .bool false)]) (bx' := [⟨p1_5, [.func (.func 37) #[] #[], .func (.func 38) #[] #[], .bool false, .func (.func 36) #[] #[]], 54⟩]) (by kernel_rfl) ?_
          refine O.nil (by kernel_rfl) ?_
          refine J.cond (o := .tmp 20) false (by kernel_rfl) (by kernel_rfl) ?_
          refine J.seq (by kernel_rfl) ?_
          obtain ⟨x9_4, hx9_4, H⟩ := bindE H
          refine J.region (by kernel_rfl) ?_
          refine O.pure 4 [(0, 1)] [1, 2, 35, 36, 37] [p1_5, 1] (fr' := [(1, .int .i64 a1), (2, .int .i64 a2), (35, .func (.func 38) #[] #[]), (36, .int .i64 a2), (37, .int .i64 a1)]) (bx' := [⟨p1_5, [.func (.func 37) #[] #[], .func (.func 38) #[] #[], .bool false, .func (.func 36) #[] #[]], 54⟩]) (by kernel_rfl) ?_
          refine O.e (some 38) (Ev.callF (g := 38) (caps := []) (vs := [.int .i64 a2, .int .i64 a1]) (xs := [.tmp 36, .tmp 37]) [] (by kernel_rfl) (by kernel_rfl) (fun w hS => prog_rules_5_f38.con K a2 a1  _ _ w hS hx9_4)) (by kernel_rfl) (fun _ => ?_)
          refine O.pure 1 [] [1, 2, 33] [] (fr' := [(1, .int .i64 a1), (2, .int .i64 a2), (33, .bool x9_4)]) (bx' := [⟨p1_5, [.func (.func 37) #[] #[], .func (.func 38) #[] #[], .bool false, .func (.func 36) #[] #[]], 54⟩]) (by kernel_rfl) ?_
          refine O.nil (by kernel_rfl) ?_
          rcases condE H with ⟨hc8, H⟩ | ⟨hc8, H⟩
          · refine J.condT (x := .tmp 33) (t := x9_4) (by kernel_rfl) (by kernel_rfl) hc8 ?_
            refine J.seq (by kernel_rfl) ?_
            refine J.region (by kernel_rfl) ?_
            refine O.pure 3 [] [6, 7] [] (fr' := [(6, .int .i64 a2), (7, .int .i64 0)]) (bx' := [⟨p1_5, [.func (.func 37) #[] #[], .func (.func 38) #[] #[], .bool false, .func (.func 36) #[] #[]], 54⟩]) (by kernel_rfl) ?_
            refine O.nil (by kernel_rfl) ?_
            obtain rfl := Option.some.inj H
            exact J.doneS [] [] [] [] [] () (vs := [.int .i64 a2, .int .i64 0]) (by kernel_rfl) (by kernel_rfl) (by kernel_rfl) (by kernel_rfl) (by kernel_rfl) (by decide)
          · refine J.condF (x := .tmp 33) (t := x9_4) (by kernel_rfl) (by kernel_rfl) hc8 ?_
            refine J.skip (by kernel_rfl) ?_
            refine J.out ?_
            refine J.seq (by kernel_rfl) ?_
            refine J.region (by kernel_rfl) ?_
            refine O.pure 3 [] [6, 7] [] (fr' := [(6, .int .i64 a1), (7, .int .i64 0)]) (bx' := [⟨p1_5, [.func (.func 37) #[] #[], .func (.func 38) #[] #[], .bool false, .func (.func 36) #[] #[]], 54⟩]) (by kernel_rfl) ?_
            refine O.nil (by kernel_rfl) ?_
            obtain rfl := Option.some.inj H
            exact J.doneS [] [] [] [] [] () (vs := [.int .i64 a1, .int .i64 0]) (by kernel_rfl) (by kernel_rfl) (by kernel_rfl) (by kernel_rfl) (by kernel_rfl) (by decide)
        · replace H := hH
          clear hH
          rcases condE H with ⟨hc9, hH⟩ | ⟨hc9, hH⟩
          · replace H := hH
            clear hH
            obtain rfl : x1_1 = 4 := by simpa using hc9
            refine J.region (by kernel_rfl) ?_
            refine O.pure 1 [] [1, 2, 13] [] (fr' := [(1, .int .i64 a1), (2, .int .i64 a2), (13, .int .i64 a0)]) (bx' := []) (by kernel_rfl) ?_
            refine O.e (some 14) (Ev.call0 (xs := [.tmp 13]) [] (by kernel_rfl) (by kernel_rfl) (fun w hS => prog_rules.con K a0 _ _ w hS hx1_1)) (by kernel_rfl) (fun _ => ?_)
            refine O.pure 3 [] [1, 2, 15, 16] [] (fr' := [(1, .int .i64 a1), (2, .int .i64 a2), (15, .agg #[.func (.func 39) #[] #[], .nilFunc, .bool false, .func (.func 36) #[] #[]]), (16, .bool true)]) (bx' := []) (by kernel_rfl) ?_
            refine O.e (some 8) (Ev.alloc (t := 54) (z := .agg #[.nilFunc, .nilFunc, .bool false, .nilFunc]) (by kernel_rfl) (by kernel_rfl)) (by kernel_rfl) (fun p1_5 => ?_)
            refine O.pure 2 [(0, 0)] [1, 2, 8, 9] [p1_5, 0] (fr' := [(1, .int .i64 a1), (2, .int .i64 a2), (8, .pointer (some ⟨p1_5, 0, none⟩)), (9, .bool true)]) (bx' := [⟨p1_5, [.func (.func 39) #[] #[], .nilFunc, .bool false, .func (.func 36) #[] #[]], 54⟩]) (by kernel_rfl) ?_
            refine O.nil (by kernel_rfl) ?_
            refine J.seq (by kernel_rfl) ?_
            refine J.block (id := 0) (by kernel_rfl) ?_
            refine J.seq (by kernel_rfl) ?_
            refine J.region (by kernel_rfl) ?_
            refine O.pure 3 [] [1, 2, 8, 17] [] (fr' := [(1, .int .i64 a1), (2, .int .i64 a2), (8, .pointer (some ⟨p1_5, 0, none⟩)), (17, .bool false)]) (bx' := [⟨p1_5, [.func (.func 39) #[] #[], .nilFunc, .bool false, .func (.func 36) #[] #[]], 54⟩]) (by kernel_rfl) ?_
            refine O.nil (by kernel_rfl) ?_
            refine J.cond (o := .tmp 17) false (by kernel_rfl) (by kernel_rfl) ?_
            refine J.seq (by kernel_rfl) ?_
            refine J.region (by kernel_rfl) ?_
            refine O.pure 2 [(0, 1)] [1, 2, 8, 22] [p1_5, 1] (fr' := [(1, .int .i64 a1), (2, .int .i64 a2), (8, .pointer (some ⟨p1_5, 0, none⟩)), (22, .nilFunc)]) (bx' := [⟨p1_5, [.func (.func 39) #[] #[], .nilFunc, .bool false, .func (.func 36) #[] #[]], 54⟩]) (by kernel_rfl) ?_
            refine O.q (v := .bool true) (some 23) (Qu.binT (op := .eql) (t := 51) (t' := 51) (x := .tmp 22) (y := .const (.nilFunc)) (u := .nilFunc) (v := .nilFunc) (by kernel_rfl) (by kernel_rfl) (by kernel_rfl) (by kernel_rfl)) (by kernel_rfl) ?_
            refine O.pure 1 [] [1, 2, 8, 20] [] (fr' := [(1, .int .i64 a1), (2, .int .i64 a2), (8, .pointer (some ⟨p1_5, 0, none⟩)), (20, .bool true)]) (bx' := [⟨p1_5, [.func (.func 39) #[] #[], .nilFunc, .bool false, .func (.func 36) #[] #[]], 54⟩]) (by kernel_rfl) ?_
            refine O.nil (by kernel_rfl) ?_
            refine J.cond (o := .tmp 20) true (by kernel_rfl) (by kernel_rfl) ?_
            refine J.seq (by kernel_rfl) ?_
            obtain ⟨x5_2, hx5_2, H⟩ := bindE H
            refine J.region (by kernel_rfl) ?_
            refine O.pure 2 [] [25, 26] [] (fr' := [(25, .int .i64 a1), (26, .int .i64 a2)]) (bx' := [⟨p1_5, [.func (.func 39) #[] #[], .nilFunc, .bool false, .func (.func 36) #[] #[]], 54⟩]) (by kernel_rfl) ?_
            refine O.e (some 27) (Ev.call0 (xs := [.tmp 25, .tmp 26]) [] (by kernel_rfl) (by kernel_rfl) (fun w hS => num_Add.con K a1 a2  _ _ w hS hx5_2)) (by kernel_rfl) (fun _ => ?_)
            refine O.pure 5 [] [10, 11] [] (fr' := [(10, .int .i64 x5_2.1), (11, .bool x5_2.2)]) (bx' := [⟨p1_5, [.func (.func 39) #[] #[], .nilFunc, .bool false, .func (.func 36) #[] #[]], 54⟩]) (by kernel_rfl) ?_
            refine O.nil (by kernel_rfl) ?_
            refine J.seq (by kernel_rfl) ?_
            refine J.seq (by kernel_rfl) ?_
            refine J.region (by kernel_rfl) ?_
            refine O.pure 2 [] [10, 31] [] (fr' := [(10, .int .i64 x5_2.1), (31, .bool (!x5_2.2))]) (bx' := [⟨p1_5, [.func (.func 39) #[] #[], .nilFunc, .bool false, .func (.func 36) #[] #[]], 54⟩]) (by kernel_rfl) ?_
            refine O.nil (by kernel_rfl) ?_
            rcases condE H with ⟨hc10, H⟩ | ⟨hc10, H⟩
            · refine J.condT (x := .tmp 31) (t := (!x5_2.2)) (by kernel_rfl) (by kernel_rfl) hc10 ?_
              refine J.seq (by kernel_rfl) ?_
              refine J.region (by kernel_rfl) ?_
              refine O.pure 2 [] [6, 7] [] (fr' := [(6, .int .i64 0), (7, .int .i64 8)]) (bx' := [⟨p1_5, [.func (.func 39) #[] #[], .nilFunc, .bool false, .func (.func 36) #[] #[]], 54⟩]) (by kernel_rfl) ?_
              refine O.nil (by kernel_rfl) ?_
              obtain rfl := Option.some.inj H
              exact J.doneS [] [] [] [] [] () (vs := [.int .i64 0, .int .i64 8]) (by kernel_rfl) (by kernel_rfl) (by kernel_rfl) (by kernel_rfl) (by kernel_rfl) (by decide)
            · refine J.condF (x := .tmp 31) (t := (!x5_2.2)) (by kernel_rfl) (by kernel_rfl) hc10 ?_
              refine J.skip (by kernel_rfl) ?_
              refine J.seq (by kernel_rfl) ?_
              refine J.region (by kernel_rfl) ?_
              refine O.pure 3 [] [6, 7] [] (fr' := [(6, .int .i64 x5_2.1), (7, .int .i64 0)]) (bx' := [⟨p1_5, [.func (.func 39) #[] #[], .nilFunc, .bool false, .func (.func 36) #[] #[]], 54⟩]) (by kernel_rfl) ?_
              refine O.nil (by kernel_rfl) ?_
              obtain rfl := Option.some.inj H
              exact J.doneS [] [] [] [] [] () (vs := [.int .i64 x5_2.1, .int .i64 0]) (by kernel_rfl) (by kernel_rfl) (by kernel_rfl) (by kernel_rfl) (by kernel_rfl) (by decide)
          · replace H := hH
            clear hH
            rcases condE H with ⟨hc11, hH⟩ | ⟨hc11, hH⟩
            · replace H := hH
              clear hH
              obtain rfl : x1_1 = 5 := by simpa using hc11
              refine J.region (by kernel_rfl) ?_
              refine O.pure 1 [] [1, 2, 13] [] (fr' := [(1, .int .i64 a1), (2, .int .i64 a2), (13, .int .i64 a0)]) (bx' := []) (by kernel_rfl) ?_
              refine O.e (some 14) (Ev.call0 (xs := [.tmp 13]) [] (by kernel_rfl) (by kernel_rfl) (fun w hS => prog_rules.con K a0 _ _ w hS hx1_1)) (by kernel_rfl) (fun _ => ?_)
              refine O.pure 3 [] [1, 2, 15, 16] [] (fr' := [(1, .int .i64 a1), (2, .int .i64 a2), (15, .agg #[.nilFunc, .nilFunc, .bool false, .nilFunc]), (16, .bool false)]) (bx' := []) (by kernel_rfl) ?_
              refine O.e (some 8) (Ev.alloc (t := 54) (z := .agg #[.nilFunc, .nilFunc, .bool false, .nilFunc]) (by kernel_rfl) (by kernel_rfl)) (by kernel_rfl) (fun p1_5 => ?_)
              refine O.pure 2 [(0, 0)] [1, 2, 8, 9] [p1_5, 0] (fr' := [(1, .int .i64 a1), (2, .int .i64 a2), (8, .pointer (some ⟨p1_5, 0, none⟩)), (9, .bool false)]) (bx' := [⟨p1_5, [.nilFunc, .nilFunc, .bool false, .nilFunc], 54⟩]) (by kernel_rfl) ?_
              refine O.nil (by kernel_rfl) ?_
              refine J.seq (by kernel_rfl) ?_
              refine J.block (id := 0) (by kernel_rfl) ?_
              refine J.seq (by kernel_rfl) ?_
              refine J.region (by kernel_rfl) ?_
              refine O.pure 3 [] [1, 2, 8, 17] [] (fr' := [(1, .int .i64 a1), (2, .int .i64 a2), (8, .pointer (some ⟨p1_5, 0, none⟩)), (17, .bool true)]) (bx' := [⟨p1_5, [.nilFunc, .nilFunc, .bool false, .nilFunc], 54⟩]) (by kernel_rfl) ?_
              refine O.nil (by kernel_rfl) ?_
              refine J.cond (o := .tmp 17) true (by kernel_rfl) (by kernel_rfl) ?_
              refine J.seq (by kernel_rfl) ?_
              refine J.region (by kernel_rfl) ?_
              refine O.pure 2 [] [6, 7] [] (fr' := [(6, .int .i64 0), (7, .int .i64 1)]) (bx' := [⟨p1_5, [.nilFunc, .nilFunc, .bool false, .nilFunc], 54⟩]) (by kernel_rfl) ?_
              refine O.nil (by kernel_rfl) ?_
              obtain rfl := Option.some.inj H
              exact J.doneS [] [] [] [] [] () (vs := [.int .i64 0, .int .i64 1]) (by kernel_rfl) (by kernel_rfl) (by kernel_rfl) (by kernel_rfl) (by kernel_rfl) (by decide)
            · replace H := hH
              clear hH
              cases H
/-! ### haywain/box.Fold: function 18 -/
def box_Fold.l2 (K : Nat) (a0 : Int) (x5_1 : List S40) : Nat → ((List S40) × Int) → Option ((List S40) × Int)
  | 0, _ => none
  | k + 1, s2 => cond (decide (s2.2 < (x5_1.length : Int))) ((idxO x5_1 s2.2).bind fun x7_0 => cond (decide ((s2.1.length : Int) > 0)) ((idxO s2.1 (IntKind.wrap .i64 ((s2.1.length : Int) - 1))).bind fun x9_6 => cond (x9_6.f0 == x7_0.f0) ((idxO s2.1 (IntKind.wrap .i64 ((s2.1.length : Int) - 1))).bind fun x10_4 => (prog_Fold.f K a0 x10_4.f1 x7_0.f1).bind fun x10_9 => cond (x10_9.2 != 0) (some ((([] : List S40), x10_9.2))) ((idxO s2.1 (IntKind.wrap .i64 ((s2.1.length : Int) - 1))).bind fun x13_4 => box_Fold.l2 K a0 x5_1 k ((s2.1.set ((IntKind.wrap .i64 ((s2.1.length : Int) - 1)).toNat) (⟨x13_4.f0, x10_9.1⟩ : S40)), (IntKind.wrap .i64 (s2.2 + 1))))) ((appO 16 s2.1 ([x7_0] : List S40)).bind fun y14_3 => box_Fold.l2 K a0 x5_1 k ((s2.1 ++ ([x7_0] : List S40)), (IntKind.wrap .i64 (s2.2 + 1))))) ((appO 16 s2.1 ([x7_0] : List S40)).bind fun y14_3 => box_Fold.l2 K a0 x5_1 k ((s2.1 ++ ([x7_0] : List S40)), (IntKind.wrap .i64 (s2.2 + 1))))) (some ((s2.1, 0)))
def box_Fold.f (K : Nat) (a0 : Int) (a1 : List S40) : Option ((List S40) × Int) := (prog_Fold.f K a0 0 0).bind fun x1_1 => cond (x1_1.2 != 0) (some ((([] : List S40), x1_1.2))) ((box_Sort.f K a1).bind fun x5_1 => box_Fold.l2 K a0 x5_1 K (([] : List S40), 0))
set_option maxRecDepth 100000 in
set_option maxHeartbeats 1000000 in
theorem box_Fold.con (K : Nat) (a0 : Int) (a1 : List S40) (h0 : Hd) (r : ((List S40) × Int)) (X : Nat → Nat → Prop) (w : World) (hS : St X w [] [] [] [] [Rd kd40 h0.1 h0.2 a1] w) (H : box_Fold.f K a0 a1 = some r) :
    Cn Try.prog 18 [.int .i64 a0, .slice h0.1 a1.length h0.2] X w [] (fun i : Hd => .tuple #[.slice i.1 r.1.length i.2, .int .i64 r.2]) (fun i => []) (fun i => [mkRow kd40 40 (.slice i.1 r.1.length i.2) r.1]) (fun i => []) := by
  refine Cn.of Try.func18 (by kernel_rfl) hS ?_
  unfold box_Fold.f at H
  refine J.seq (by kernel_rfl) ?_
  refine J.region (by kernel_rfl) ?_
  refine O.pure 2 [] [0, 1] [] (fr' := [(0, .int .i64 a0), (1, .slice h0.1 a1.length h0.2)]) (bx' := []) (by kernel_rfl) ?_
  refine O.nil (by kernel_rfl) ?_
  refine J.seq (by kernel_rfl) ?_
  refine J.seq (by kernel_rfl) ?_
  obtain ⟨x1_1, hx1_1, H⟩ := bindE H
  refine J.region (by kernel_rfl) ?_
  refine O.pure 1 [] [0, 1, 15] [] (fr' := [(0, .int .i64 a0), (1, .slice h0.1 a1.length h0.2), (15, .int .i64 a0)]) (bx' := []) (by kernel_rfl) ?_
  refine O.e (some 16) (Ev.call0 (xs := [.tmp 15, .const (.int .i64 0), .const (.int .i64 0)]) [] (by kernel_rfl) (by kernel_rfl) (fun w hS => prog_Fold.con K a0 0 0  _ _ w hS hx1_1)) (by kernel_rfl) (fun _ => ?_)
  refine O.pure 5 [] [0, 1, 7] [] (fr' := [(0, .int .i64 a0), (1, .slice h0.1 a1.length h0.2), (7, .int .i64 x1_1.2)]) (bx' := []) (by kernel_rfl) ?_
  refine O.nil (by kernel_rfl) ?_
  refine J.seq (by kernel_rfl) ?_
  refine J.region (by kernel_rfl) ?_
  refine O.pure 2 [] [0, 1, 7, 20] [] (fr' := [(0, .int .i64 a0), (1, .slice h0.1 a1.length h0.2), (7, .int .i64 x1_1.2), (20, .bool (x1_1.2 != 0))]) (bx' := []) (by kernel_rfl) ?_
  refine O.nil (by kernel_rfl) ?_
  rcases condE H with ⟨hc1, H⟩ | ⟨hc1, H⟩
  · refine J.condT (x := .tmp 20) (t := (x1_1.2 != 0)) (by kernel_rfl) (by kernel_rfl) hc1 ?_
    refine J.seq (by kernel_rfl) ?_
    refine J.region (by kernel_rfl) ?_
    refine O.pure 3 [] [4, 5] [] (fr' := [(4, .slice none 0 0), (5, .int .i64 x1_1.2)]) (bx' := []) (by kernel_rfl) ?_
    refine O.nil (by kernel_rfl) ?_
    obtain rfl := Option.some.inj H
    refine J.nilrow kd40 40 ?_
    exact J.doneS [] [] [] [] [0] (none, 0) (vs := [.slice none 0 0, .int .i64 x1_1.2]) (by kernel_rfl) (by kernel_rfl) (by kernel_rfl) (by kernel_rfl) (by kernel_rfl) (by decide)
  · refine J.condF (x := .tmp 20) (t := (x1_1.2 != 0)) (by kernel_rfl) (by kernel_rfl) hc1 ?_
    refine J.skip (by kernel_rfl) ?_
    refine J.seq (by kernel_rfl) ?_
    refine J.region (by kernel_rfl) ?_
    refine O.pure 1 [] [0, 1, 8] [] (fr' := [(0, .int .i64 a0), (1, .slice h0.1 a1.length h0.2), (8, .slice none 0 0)]) (bx' := []) (by kernel_rfl) ?_
    refine O.nil (by kernel_rfl) ?_
    refine J.seq (by kernel_rfl) ?_
    refine J.seq (by kernel_rfl) ?_
    obtain ⟨x5_1, hx5_1, H⟩ := bindE H
    refine J.region (by kernel_rfl) ?_
    refine O.pure 1 [] [0, 8, 22] [] (fr' := [(0, .int .i64 a0), (8, .slice none 0 0), (22, .slice h0.1 a1.length h0.2)]) (bx' := []) (by kernel_rfl) ?_
    refine O.e (some 23) (Ev.call0 (xs := [.tmp 22]) [0] (by kernel_rfl) (by kernel_rfl) (fun w hS => box_Sort.con K a1 h0  _ _ w hS hx5_1)) (by kernel_rfl) (fun p5_1 => ?_)
    refine O.pure 2 [] [0, 8, 23, 24, 25] [] (fr' := [(0, .int .i64 a0), (8, .slice none 0 0), (23, .slice p5_1.1 x5_1.length p5_1.2), (24, .int .i64 (x5_1.length : Int)), (25, .int .i64 0)]) (bx' := []) (by kernel_rfl) ?_
    refine O.nil (by kernel_rfl) ?_
    refine J.block (id := 0) (by kernel_rfl) ?_
    refine J.loopI (σ := (List S40) × Int) (γ := Hd) (f := fun m_ s_ => box_Fold.l2 K a0 x5_1 m_ s_) (fun s2 g2 => [(0, .int .i64 a0), (8, .slice g2.1 s2.1.length g2.2), (23, .slice p5_1.1 x5_1.length p5_1.2), (24, .int .i64 (x5_1.length : Int)), (25, .int .i64 s2.2)]) (fun s2 g2 => St X w [] [] [mkRow kd40 40 (.slice g2.1 s2.1.length g2.2) s2.1, mkRow kd40 40 (.slice p5_1.1 x5_1.length p5_1.2) x5_1] [] [Rd kd40 h0.1 h0.2 a1]) K (([] : List S40), 0) (none, 0) (by kernel_rfl) H (fun _ => rfl) (fun m_ s2 H ih2 g2 => ?_) (fun h_ => ?_)
    · unfold box_Fold.l2 at H
      refine J.seq (by kernel_rfl) ?_
      refine J.region (by kernel_rfl) ?_
      refine O.pure 1 [] [0, 8, 23, 24, 25, 26] [] (fr' := [(0, .int .i64 a0), (8, .slice g2.1 s2.1.length g2.2), (23, .slice p5_1.1 x5_1.length p5_1.2), (24, .int .i64 (x5_1.length : Int)), (25, .int .i64 s2.2), (26, .bool (decide (s2.2 < (x5_1.length : Int))))]) (bx' := []) (by kernel_rfl) ?_
      refine O.nil (by kernel_rfl) ?_
      refine J.seq (by kernel_rfl) ?_
      rcases condE H with ⟨hc8, H⟩ | ⟨hc8, H⟩
      · refine J.condT (x := .tmp 26) (t := (decide (s2.2 < (x5_1.length : Int)))) (by kernel_rfl) (by kernel_rfl) hc8 ?_
        refine J.skip (by kernel_rfl) ?_
        refine J.seq (by kernel_rfl) ?_
        refine J.block (id := 1) (by kernel_rfl) ?_
        refine J.seq (by kernel_rfl) ?_
        obtain ⟨x7_0, hx7_0, H⟩ := bindE H
        obtain ⟨hx7_0a, hx7_0⟩ := idxE hx7_0
        refine J.region (by kernel_rfl) ?_
        refine O.mono (fun w hS => hS.rowsel [1, 0] rfl (by decide)) ?_
        refine O.mono (fun w hS => hS.pk) ?_
        refine O.peek (d := kd40) (hh := p5_1) (m := x5_1.length) (i := s2.2) (by simpa only [List.length_set] using hx7_0) (op40 _) (fun p7_0 hp7_0A => ?_)
        refine O.q (v := .pointer (some ⟨p7_0.1, 0 + s2.2.toNat * 2, none⟩)) (some 27) (Qu.idx (t := 22) (x := .tmp 23) (y := .tmp 25) (len := x5_1.length) (c := p5_1.2) (kk := .i64) (sz := 2) (by kernel_rfl) (by kernel_rfl) (by kernel_rfl) (by kernel_rfl) hx7_0a (by have := idx_lt hx7_0; simpa only [List.length_set, List.length_replicate] using this) hp7_0A) (by kernel_rfl) ?_
        refine O.q (v := .agg #[.int .i64 x7_0.f0, .int .i64 x7_0.f1]) (some 28) (Qu.loadR (t := 40) (x := .tmp 27) (hh := p5_1) (m := x5_1.length) (i := s2.2.toNat) (u := .pointer (some ⟨p7_0.1, 0 + s2.2.toNat * 2, none⟩)) (r := .agg #[.int .i64 x7_0.f0, .int .i64 x7_0.f1]) (cs := [.int .i64 x7_0.f0, .int .i64 x7_0.f1]) 0 0 [p7_0.1, 0 + s2.2.toNat * 2] (by kernel_rfl) (by kernel_rfl) hp7_0A rfl (by kernel_rfl)) (by kernel_rfl) ?_
        refine O.e (some 10) (Ev.alloc (t := 40) (z := .agg #[.int .i64 0, .int .i64 0]) (by kernel_rfl) (by kernel_rfl)) (by kernel_rfl) (fun p7_2 => ?_)
        refine O.pure 1 [(0, 0)] [0, 8, 10, 23, 24, 25] [p7_2, 0] (fr' := [(0, .int .i64 a0), (8, .slice g2.1 s2.1.length g2.2), (10, .pointer (some ⟨p7_2, 0, none⟩)), (23, .slice p5_1.1 x5_1.length p5_1.2), (24, .int .i64 (x5_1.length : Int)), (25, .int .i64 s2.2)]) (bx' := [⟨p7_2, [.int .i64 x7_0.f0, .int .i64 x7_0.f1], 40⟩]) (by kernel_rfl) ?_
        refine O.nil (by kernel_rfl) ?_
        refine J.mono (fun w hS => hS.unpk) ?_
        refine J.seq (by kernel_rfl) ?_
        refine J.seq (by kernel_rfl) ?_
        refine J.region (by kernel_rfl) ?_
        refine O.pure 3 [] [0, 8, 10, 11, 23, 24, 25] [] (fr' := [(0, .int .i64 a0), (8, .slice g2.1 s2.1.length g2.2), (10, .pointer (some ⟨p7_2, 0, none⟩)), (11, .int .i64 (s2.1.length : Int)), (23, .slice p5_1.1 x5_1.length p5_1.2), (24, .int .i64 (x5_1.length : Int)), (25, .int .i64 s2.2)]) (bx' := [⟨p7_2, [.int .i64 x7_0.f0, .int .i64 x7_0.f1], 40⟩]) (by kernel_rfl) ?_
        refine O.nil (by kernel_rfl) ?_
        refine J.seq (by kernel_rfl) ?_
        rcases condE H with ⟨hc9, H⟩ | ⟨hc9, H⟩
        · obtain ⟨x9_6, hx9_6, H⟩ := bindE H
          obtain ⟨hx9_6a, hx9_6⟩ := idxE hx9_6
          refine J.mono (fun w hS => hS.rowsel [1, 0] rfl (by decide)) ?_
          refine J.mono (fun w hS => hS.pk) ?_
          refine J.peek (d := kd40) (hh := g2) (m := s2.1.length) (i := (IntKind.wrap .i64 ((s2.1.length : Int) - 1))) (by simpa only [List.length_set] using hx9_6) (op40 _) (fun p9_6 hp9_6A => ?_)
          refine J.drawS (by kernel_rfl) [(0, some 31, .int .i64 (s2.1.length : Int)), (2, some 33, .bool true), (3, some 34, .slice g2.1 s2.1.length g2.2), (4, some 35, .int .i64 (s2.1.length : Int)), (5, some 36, .int .i64 (IntKind.wrap .i64 ((s2.1.length : Int) - 1))), (7, some 38, .pointer (some ⟨p9_6.1, 0 + (IntKind.wrap .i64 ((s2.1.length : Int) - 1)).toNat * 2, none⟩)), (9, some 40, .pointer (some ⟨p7_2, 0, none⟩)), (10, some 41, .int .i64 x7_0.f0), (11, some 42, .bool (x9_6.f0 == x7_0.f0)), (12, some 43, .bool (x9_6.f0 == x7_0.f0)), (1, some 32, .bool true), (6, some 37, .pointer (some ⟨p9_6.1, 0 + (IntKind.wrap .i64 ((s2.1.length : Int) - 1)).toNat * 2, none⟩)), (8, some 39, .int .i64 x9_6.f0)] ([0, 2, 3, 4, 5, 7, 9, 10, 11, 12] ++ [1, 6, 8]) (by kernel_rfl) ?_
          refine D.fin (fr' := [(0, .int .i64 a0), (8, .slice g2.1 s2.1.length g2.2), (10, .pointer (some ⟨p7_2, 0, none⟩)), (11, .int .i64 (s2.1.length : Int)), (23, .slice p5_1.1 x5_1.length p5_1.2), (24, .int .i64 (x5_1.length : Int)), (25, .int .i64 s2.2), (34, .slice g2.1 s2.1.length g2.2), (35, .int .i64 (s2.1.length : Int)), (36, .int .i64 (IntKind.wrap .i64 ((s2.1.length : Int) - 1))), (37, .pointer (some ⟨p9_6.1, 0 + (IntKind.wrap .i64 ((s2.1.length : Int) - 1)).toNat * 2, none⟩)), (38, .pointer (some ⟨p9_6.1, 0 + (IntKind.wrap .i64 ((s2.1.length : Int) - 1)).toNat * 2, none⟩)), (39, .int .i64 x9_6.f0), (40, .pointer (some ⟨p7_2, 0, none⟩)), (41, .int .i64 x7_0.f0), (42, .bool (x9_6.f0 == x7_0.f0)), (43, .bool (x9_6.f0 == x7_0.f0))]) [0, 2, 3, 4, 5, 7, 9, 10, 11, 12] [1, 6, 8] [(0, 0)] [p7_2, 0] [0, 8, 10, 11, 23, 24, 25, 34, 35, 36, 37, 38, 39, 40, 41, 42, 43] (by kernel_rfl) (by kernel_rfl) (⟨QuAt.mk (v := .bool true) (some 32) (by kernel_rfl) (by kernel_rfl) (Qu.eqv (u := .bool (decide ((s2.1.length : Int) > 0))) (v := .bool true) (0, 0) [] (by kernel_rfl) (congrArg Value.bool hc9)), QuAt.mk (v := .pointer (some ⟨p9_6.1, 0 + (IntKind.wrap .i64 ((s2.1.length : Int) - 1)).toNat * 2, none⟩)) (some 37) (by kernel_rfl) (by kernel_rfl) (Qu.idx (t := 22) (x := .tmp 34) (y := .tmp 36) (len := s2.1.length) (c := g2.2) (kk := .i64) (sz := 2) (by kernel_rfl) (by kernel_rfl) (by kernel_rfl) (by kernel_rfl) hx9_6a (by have := idx_lt hx9_6; simpa only [List.length_set, List.length_replicate] using this) hp9_6A), QuAt.mk (v := .int .i64 x9_6.f0) (some 39) (by kernel_rfl) (by kernel_rfl) (Qu.loadR (t := 3) (x := .tmp 38) (hh := g2) (m := s2.1.length) (i := (IntKind.wrap .i64 ((s2.1.length : Int) - 1)).toNat) (u := .pointer (some ⟨p9_6.1, 0 + (IntKind.wrap .i64 ((s2.1.length : Int) - 1)).toNat * 2, none⟩)) (r := .int .i64 x9_6.f0) (cs := [.int .i64 x9_6.f0, .int .i64 x9_6.f1]) 0 0 [p9_6.1, 0 + (IntKind.wrap .i64 ((s2.1.length : Int) - 1)).toNat * 2] (by kernel_rfl) (by kernel_rfl) hp9_6A rfl (by kernel_rfl)), trivial⟩) (by kernel_rfl) ?_
          refine J.mono (fun w hS => hS.unpk) ?_
          rcases condE H with ⟨hc10, H⟩ | ⟨hc10, H⟩
          · refine J.condT (x := .tmp 43) (t := (x9_6.f0 == x7_0.f0)) (by kernel_rfl) (by kernel_rfl) hc10 ?_
            refine J.seq (by kernel_rfl) ?_
            obtain ⟨x10_4, hx10_4, H⟩ := bindE H
            obtain ⟨hx10_4a, hx10_4⟩ := idxE hx10_4
            obtain ⟨x10_9, hx10_9, H⟩ := bindE H
            refine J.mono (fun w hS => hS.pk) ?_
            refine J.peek (d := kd40) (hh := g2) (m := s2.1.length) (i := (IntKind.wrap .i64 ((s2.1.length : Int) - 1))) (by simpa only [List.length_set] using hx10_4) (op40 _) (fun p10_4 hp10_4A => ?_)
            refine J.drawS (by kernel_rfl) [(0, some 45, .int .i64 a0), (1, some 46, .slice g2.1 s2.1.length g2.2), (2, some 47, .int .i64 (s2.1.length : Int)), (3, some 48, .int .i64 (IntKind.wrap .i64 ((s2.1.length : Int) - 1))), (5, some 50, .pointer (some ⟨p10_4.1, 0 + (IntKind.wrap .i64 ((s2.1.length : Int) - 1)).toNat * 2 + 1, none⟩)), (7, some 52, .pointer (some ⟨p7_2, 1, none⟩)), (8, some 53, .int .i64 x7_0.f1), (4, some 49, .pointer (some ⟨p10_4.1, 0 + (IntKind.wrap .i64 ((s2.1.length : Int) - 1)).toNat * 2, none⟩)), (6, some 51, .int .i64 x10_4.f1)] ([0, 1, 2, 3, 5, 7, 8] ++ [4, 6]) (by kernel_rfl) ?_
            refine D.mid (cs := [9]) [0, 1, 2, 3, 5, 7, 8] [4, 6] [(0, 1)] [p7_2, 1] (by kernel_rfl) (by kernel_rfl) (⟨QuAt.mk (v := .pointer (some ⟨p10_4.1, 0 + (IntKind.wrap .i64 ((s2.1.length : Int) - 1)).toNat * 2, none⟩)) (some 49) (by kernel_rfl) (by kernel_rfl) (Qu.idx (t := 22) (x := .tmp 46) (y := .tmp 48) (len := s2.1.length) (c := g2.2) (kk := .i64) (sz := 2) (by kernel_rfl) (by kernel_rfl) (by kernel_rfl) (by kernel_rfl) hx10_4a (by have := idx_lt hx10_4; simpa only [List.length_set, List.length_replicate] using this) hp10_4A), QuAt.mk (v := .int .i64 x10_4.f1) (some 51) (by kernel_rfl) (by kernel_rfl) (Qu.loadR (t := 2) (x := .tmp 50) (hh := g2) (m := s2.1.length) (i := (IntKind.wrap .i64 ((s2.1.length : Int) - 1)).toNat) (u := .pointer (some ⟨p10_4.1, 0 + (IntKind.wrap .i64 ((s2.1.length : Int) - 1)).toNat * 2 + 1, none⟩)) (r := .int .i64 x10_4.f1) (cs := [.int .i64 x10_4.f0, .int .i64 x10_4.f1]) 0 1 [p10_4.1, 0 + (IntKind.wrap .i64 ((s2.1.length : Int) - 1)).toNat * 2 + 1] (by kernel_rfl) (by kernel_rfl) hp10_4A rfl (by kernel_rfl)), trivial⟩) (by kernel_rfl) ⟨?_, trivial⟩
            refine EvStep.mk (some 54) (new := fun _ => [(10, some 44, .tuple #[.int .i64 x10_9.1, .int .i64 x10_9.2]), (11, some 55, .int .i64 x10_9.1), (12, some 56, .int .i64 x10_9.2), (13, some 12, .int .i64 x10_9.1), (14, some 13, .int .i64 x10_9.2)]) ([1, 2, 3, 5, 7, 10, 11, 12, 13, 14] ++ [4]) (by kernel_rfl) (Ev.call0 (xs := [.tmp 45, .tmp 51, .tmp 53]) [] (by kernel_rfl) (by kernel_rfl) (fun w hS => prog_Fold.con K a0 x10_4.f1 x7_0.f1  _ _ w hS hx10_9)) (fun _ => by kernel_rfl) (fun _ => ?_)
            refine D.fin (fr' := [(0, .int .i64 a0), (8, .slice g2.1 s2.1.length g2.2), (11, .int .i64 (s2.1.length : Int)), (12, .int .i64 x10_9.1), (13, .int .i64 x10_9.2), (23, .slice p5_1.1 x5_1.length p5_1.2), (24, .int .i64 (x5_1.length : Int)), (25, .int .i64 s2.2), (34, .slice g2.1 s2.1.length g2.2), (35, .int .i64 (s2.1.length : Int)), (36, .int .i64 (IntKind.wrap .i64 ((s2.1.length : Int) - 1))), (37, .pointer (some ⟨p9_6.1, 0 + (IntKind.wrap .i64 ((s2.1.length : Int) - 1)).toNat * 2, none⟩)), (38, .pointer (some ⟨p9_6.1, 0 + (IntKind.wrap .i64 ((s2.1.length : Int) - 1)).toNat * 2, none⟩)), (39, .int .i64 x9_6.f0), (40, .pointer (some ⟨p7_2, 0, none⟩)), (41, .int .i64 x7_0.f0), (42, .bool (x9_6.f0 == x7_0.f0))]) [1, 2, 3, 5, 7, 10, 11, 12, 13, 14] [4] [] [] [0, 8, 11, 12, 13, 23, 24, 25, 34, 35, 36, 37, 38, 39, 40, 41, 42] (by kernel_rfl) (by kernel_rfl) (⟨QuAt.mk (v := .pointer (some ⟨p10_4.1, 0 + (IntKind.wrap .i64 ((s2.1.length : Int) - 1)).toNat * 2, none⟩)) (some 49) (by kernel_rfl) (by kernel_rfl) (Qu.idx (t := 22) (x := .tmp 46) (y := .tmp 48) (len := s2.1.length) (c := g2.2) (kk := .i64) (sz := 2) (by kernel_rfl) (by kernel_rfl) (by kernel_rfl) (by kernel_rfl) hx10_4a (by have := idx_lt hx10_4; simpa only [List.length_set, List.length_replicate] using this) hp10_4A), trivial⟩) (by kernel_rfl) ?_
            refine J.mono (fun w hS => hS.unpk) ?_
            refine J.seq (by kernel_rfl) ?_
            refine J.seq (by kernel_rfl) ?_
            refine J.region (by kernel_rfl) ?_
            refine O.pure 2 [] [0, 8, 11, 12, 13, 23, 24, 25, 34, 35, 36, 37, 38, 39, 40, 41, 42, 58] [] (fr' := [(0, .int .i64 a0), (8, .slice g2.1 s2.1.length g2.2), (11, .int .i64 (s2.1.length : Int)), (12, .int .i64 x10_9.1), (13, .int .i64 x10_9.2), (23, .slice p5_1.1 x5_1.length p5_1.2), (24, .int .i64 (x5_1.length : Int)), (25, .int .i64 s2.2), (34, .slice g2.1 s2.1.length g2.2), (35, .int .i64 (s2.1.length : Int)), (36, .int .i64 (IntKind.wrap .i64 ((s2.1.length : Int) - 1))), (37, .pointer (some ⟨p9_6.1, 0 + (IntKind.wrap .i64 ((s2.1.length : Int) - 1)).toNat * 2, none⟩)), (38, .pointer (some ⟨p9_6.1, 0 + (IntKind.wrap .i64 ((s2.1.length : Int) - 1)).toNat * 2, none⟩)), (39, .int .i64 x9_6.f0), (40, .pointer (some ⟨p7_2, 0, none⟩)), (41, .int .i64 x7_0.f0), (42, .bool (x9_6.f0 == x7_0.f0)), (58, .bool (x10_9.2 != 0))]) (bx' := [⟨p7_2, [.int .i64 x7_0.f0, .int .i64 x7_0.f1], 40⟩]) (by kernel_rfl) ?_
            refine O.nil (by kernel_rfl) ?_
            rcases condE H with ⟨hc11, H⟩ | ⟨hc11, H⟩
            · refine J.condT (x := .tmp 58) (t := (x10_9.2 != 0)) (by kernel_rfl) (by kernel_rfl) hc11 ?_
              refine J.seq (by kernel_rfl) ?_
              refine J.region (by kernel_rfl) ?_
              refine O.pure 3 [] [4, 5] [] (fr' := [(4, .slice none 0 0), (5, .int .i64 x10_9.2)]) (bx' := [⟨p7_2, [.int .i64 x7_0.f0, .int .i64 x7_0.f1], 40⟩]) (by kernel_rfl) ?_
              refine O.nil (by kernel_rfl) ?_
              obtain rfl := Option.some.inj H
              refine J.nilrow kd40 40 ?_
              exact J.doneS [] [] [] [] [0] (none, 0) (vs := [.slice none 0 0, .int .i64 x10_9.2]) (by kernel_rfl) (by kernel_rfl) (by kernel_rfl) (by kernel_rfl) (by kernel_rfl) (by decide)
            · refine J.condF (x := .tmp 58) (t := (x10_9.2 != 0)) (by kernel_rfl) (by kernel_rfl) hc11 ?_
              refine J.skip (by kernel_rfl) ?_
              refine J.seq (by kernel_rfl) ?_
              obtain ⟨x13_4, hx13_4, H⟩ := bindE H
              obtain ⟨hx13_4a, hx13_4⟩ := idxE hx13_4
              refine J.region (by kernel_rfl) ?_
              refine O.pure 4 [] [0, 8, 23, 24, 25, 34, 35, 36, 37, 38, 39, 40, 41, 42, 60, 62, 63] [] (fr' := [(0, .int .i64 a0), (8, .slice g2.1 s2.1.length g2.2), (23, .slice p5_1.1 x5_1.length p5_1.2), (24, .int .i64 (x5_1.length : Int)), (25, .int .i64 s2.2), (34, .slice g2.1 s2.1.length g2.2), (35, .int .i64 (s2.1.length : Int)), (36, .int .i64 (IntKind.wrap .i64 ((s2.1.length : Int) - 1))), (37, .pointer (some ⟨p9_6.1, 0 + (IntKind.wrap .i64 ((s2.1.length : Int) - 1)).toNat * 2, none⟩)), (38, .pointer (some ⟨p9_6.1, 0 + (IntKind.wrap .i64 ((s2.1.length : Int) - 1)).toNat * 2, none⟩)), (39, .int .i64 x9_6.f0), (40, .pointer (some ⟨p7_2, 0, none⟩)), (41, .int .i64 x7_0.f0), (42, .bool (x9_6.f0 == x7_0.f0)), (60, .slice g2.1 s2.1.length g2.2), (62, .int .i64 (IntKind.wrap .i64 ((s2.1.length : Int) - 1))), (63, .int .i64 x10_9.1)]) (bx' := [⟨p7_2, [.int .i64 x7_0.f0, .int .i64 x7_0.f1], 40⟩]) (by kernel_rfl) ?_
              refine O.mono (fun w hS => hS.pk) ?_
              refine O.peek (d := kd40) (hh := g2) (m := s2.1.length) (i := (IntKind.wrap .i64 ((s2.1.length : Int) - 1))) (by simpa only [List.length_set] using hx13_4) (op40 _) (fun p13_4 hp13_4A => ?_)
              refine O.q (v := .pointer (some ⟨p13_4.1, 0 + (IntKind.wrap .i64 ((s2.1.length : Int) - 1)).toNat * 2, none⟩)) (some 64) (Qu.idx (t := 22) (x := .tmp 60) (y := .tmp 62) (len := s2.1.length) (c := g2.2) (kk := .i64) (sz := 2) (by kernel_rfl) (by kernel_rfl) (by kernel_rfl) (by kernel_rfl) hx13_4a (by have := idx_lt hx13_4; simpa only [List.length_set, List.length_replicate] using this) hp13_4A) (by kernel_rfl) ?_
              refine O.pure 1 [] [0, 8, 23, 24, 25, 34, 35, 36, 37, 38, 39, 40, 41, 42, 63, 65] [] (fr' := [(0, .int .i64 a0), (8, .slice g2.1 s2.1.length g2.2), (23, .slice p5_1.1 x5_1.length p5_1.2), (24, .int .i64 (x5_1.length : Int)), (25, .int .i64 s2.2), (34, .slice g2.1 s2.1.length g2.2), (35, .int .i64 (s2.1.length : Int)), (36, .int .i64 (IntKind.wrap .i64 ((s2.1.length : Int) - 1))), (37, .pointer (some ⟨p9_6.1, 0 + (IntKind.wrap .i64 ((s2.1.length : Int) - 1)).toNat * 2, none⟩)), (38, .pointer (some ⟨p9_6.1, 0 + (IntKind.wrap .i64 ((s2.1.length : Int) - 1)).toNat * 2, none⟩)), (39, .int .i64 x9_6.f0), (40, .pointer (some ⟨p7_2, 0, none⟩)), (41, .int .i64 x7_0.f0), (42, .bool (x9_6.f0 == x7_0.f0)), (63, .int .i64 x10_9.1), (65, .pointer (some ⟨p13_4.1, 0 + (IntKind.wrap .i64 ((s2.1.length : Int) - 1)).toNat * 2 + 1, none⟩))]) (bx' := [⟨p7_2, [.int .i64 x7_0.f0, .int .i64 x7_0.f1], 40⟩]) (by kernel_rfl) ?_
              refine O.e none (Ev.storeR (t := 2) (x := .tmp 65) (y := .tmp 63) (hh := g2) (m := s2.1.length) (g := p13_4.1) (i := (IntKind.wrap .i64 ((s2.1.length : Int) - 1)).toNat) (f := 1) (s := 1) (u := .pointer (some ⟨p13_4.1, 0 + (IntKind.wrap .i64 ((s2.1.length : Int) - 1)).toNat * 2 + 1, none⟩)) (z := .int .i64 x10_9.1) (cs := [.int .i64 x13_4.f0, .int .i64 x13_4.f1]) (ncs := [.int .i64 x13_4.f0, .int .i64 x10_9.1]) (⟨x13_4.f0, x10_9.1⟩ : S40) (some 0) (by kernel_rfl) (by kernel_rfl) rfl (by kernel_rfl) hp13_4A (by have := idx_lt hx13_4; simpa only [List.length_set] using this) ⟨by kernel_rfl, by kernel_rfl, by kernel_rfl, by kernel_rfl⟩ rfl (by kernel_rfl) (fun w' hφ => rfl)) (by kernel_rfl) (fun _ => ?_)
              refine O.nil (by kernel_rfl) ?_
              refine J.mono (fun w hS => hS.unpk) ?_
              refine J.renS [0, 8, 23, 24, 25, 34, 35, 36, 37, 38, 39, 40, 41, 42] (fr1 := [(0, .int .i64 a0), (8, .slice g2.1 s2.1.length g2.2), (23, .slice p5_1.1 x5_1.length p5_1.2), (24, .int .i64 (x5_1.length : Int)), (25, .int .i64 s2.2), (34, .slice g2.1 s2.1.length g2.2), (35, .int .i64 (s2.1.length : Int)), (36, .int .i64 (IntKind.wrap .i64 ((s2.1.length : Int) - 1))), (37, .pointer (some ⟨p9_6.1, 0 + (IntKind.wrap .i64 ((s2.1.length : Int) - 1)).toNat * 2, none⟩)), (38, .pointer (some ⟨p9_6.1, 0 + (IntKind.wrap .i64 ((s2.1.length : Int) - 1)).toNat * 2, none⟩)), (39, .int .i64 x9_6.f0), (40, .pointer (some ⟨p7_2, 0, none⟩)), (41, .int .i64 x7_0.f0), (42, .bool (x9_6.f0 == x7_0.f0))]) (bx1 := [⟨p7_2, [.int .i64 x7_0.f0, .int .i64 x7_0.f1], 40⟩]) (rw1 := [mkRow kd40 40 (.slice g2.1 s2.1.length g2.2) (s2.1.set ((IntKind.wrap .i64 ((s2.1.length : Int) - 1)).toNat) (⟨x13_4.f0, x10_9.1⟩ : S40)), mkRow kd40 40 (.slice p5_1.1 x5_1.length p5_1.2) x5_1]) (fr' := [(0, .int .i64 a0), (8, .slice g2.1 (s2.1.set ((IntKind.wrap .i64 ((s2.1.length : Int) - 1)).toNat) (⟨x13_4.f0, x10_9.1⟩ : S40)).length g2.2), (23, .slice p5_1.1 x5_1.length p5_1.2), (24, .int .i64 (x5_1.length : Int)), (25, .int .i64 s2.2), (34, .slice g2.1 (s2.1.set ((IntKind.wrap .i64 ((s2.1.length : Int) - 1)).toNat) (⟨x13_4.f0, x10_9.1⟩ : S40)).length g2.2), (35, .int .i64 (s2.1.length : Int)), (36, .int .i64 (IntKind.wrap .i64 ((s2.1.length : Int) - 1))), (37, .pointer (some ⟨p9_6.1, 0 + (IntKind.wrap .i64 ((s2.1.length : Int) - 1)).toNat * 2, none⟩)), (38, .pointer (some ⟨p9_6.1, 0 + (IntKind.wrap .i64 ((s2.1.length : Int) - 1)).toNat * 2, none⟩)), (39, .int .i64 x9_6.f0), (40, .pointer (some ⟨p7_2, 0, none⟩)), (41, .int .i64 x7_0.f0), (42, .bool (x9_6.f0 == x7_0.f0))]) (bx' := [⟨p7_2, [.int .i64 x7_0.f0, .int .i64 x7_0.f1], 40⟩]) (rw' := [mkRow kd40 40 (.slice g2.1 (s2.1.set ((IntKind.wrap .i64 ((s2.1.length : Int) - 1)).toNat) (⟨x13_4.f0, x10_9.1⟩ : S40)).length g2.2) (s2.1.set ((IntKind.wrap .i64 ((s2.1.length : Int) - 1)).toNat) (⟨x13_4.f0, x10_9.1⟩ : S40)), mkRow kd40 40 (.slice p5_1.1 x5_1.length p5_1.2) x5_1]) (by kernel_rfl) (by kernel_rfl) (by simp only [List.length_set, List.length_replicate]) ?_
              refine J.exit (id := 1) (by kernel_rfl) rfl ?_
              refine J.region (by kernel_rfl) ?_
              refine O.pure 2 [] [0, 8, 23, 24, 25, 34, 35, 36, 37, 38, 39, 40, 41, 42] [] (fr' := [(0, .int .i64 a0), (8, .slice g2.1 (s2.1.set ((IntKind.wrap .i64 ((s2.1.length : Int) - 1)).toNat) (⟨x13_4.f0, x10_9.1⟩ : S40)).length g2.2), (23, .slice p5_1.1 x5_1.length p5_1.2), (24, .int .i64 (x5_1.length : Int)), (25, .int .i64 (IntKind.wrap .i64 (s2.2 + 1))), (34, .slice g2.1 (s2.1.set ((IntKind.wrap .i64 ((s2.1.length : Int) - 1)).toNat) (⟨x13_4.f0, x10_9.1⟩ : S40)).length g2.2), (35, .int .i64 (s2.1.length : Int)), (36, .int .i64 (IntKind.wrap .i64 ((s2.1.length : Int) - 1))), (37, .pointer (some ⟨p9_6.1, 0 + (IntKind.wrap .i64 ((s2.1.length : Int) - 1)).toNat * 2, none⟩)), (38, .pointer (some ⟨p9_6.1, 0 + (IntKind.wrap .i64 ((s2.1.length : Int) - 1)).toNat * 2, none⟩)), (39, .int .i64 x9_6.f0), (40, .pointer (some ⟨p7_2, 0, none⟩)), (41, .int .i64 x7_0.f0), (42, .bool (x9_6.f0 == x7_0.f0))]) (bx' := [⟨p7_2, [.int .i64 x7_0.f0, .int .i64 x7_0.f1], 40⟩]) (by kernel_rfl) ?_
              refine O.nil (by kernel_rfl) ?_
              exact J.conv2 [0, 8, 23, 24, 25] [0] [] [0, 1] (by kernel_rfl) (by kernel_rfl) (by kernel_rfl) (by kernel_rfl) (by decide) (ih2 ((s2.1.set ((IntKind.wrap .i64 ((s2.1.length : Int) - 1)).toNat) (⟨x13_4.f0, x10_9.1⟩ : S40)), (IntKind.wrap .i64 (s2.2 + 1))) g2 H)
          · refine J.condF (x := .tmp 43) (t := (x9_6.f0 == x7_0.f0)) (by kernel_rfl) (by kernel_rfl) hc10 ?_
            refine J.skip (by kernel_rfl) ?_
            obtain ⟨y14_3, hy14_3, H⟩ := bindE H
            have hy14_3a := (appE hy14_3).1
            refine J.region (by kernel_rfl) ?_
            refine O.pure 2 [(0, 0)] [0, 8, 23, 24, 25, 34, 35, 36, 37, 38, 39, 40, 41, 42, 66, 67] [p7_2, 0] (fr' := [(0, .int .i64 a0), (8, .slice g2.1 s2.1.length g2.2), (23, .slice p5_1.1 x5_1.length p5_1.2), (24, .int .i64 (x5_1.length : Int)), (25, .int .i64 s2.2), (34, .slice g2.1 s2.1.length g2.2), (35, .int .i64 (s2.1.length : Int)), (36, .int .i64 (IntKind.wrap .i64 ((s2.1.length : Int) - 1))), (37, .pointer (some ⟨p9_6.1, 0 + (IntKind.wrap .i64 ((s2.1.length : Int) - 1)).toNat * 2, none⟩)), (38, .pointer (some ⟨p9_6.1, 0 + (IntKind.wrap .i64 ((s2.1.length : Int) - 1)).toNat * 2, none⟩)), (39, .int .i64 x9_6.f0), (40, .pointer (some ⟨p7_2, 0, none⟩)), (41, .int .i64 x7_0.f0), (42, .bool (x9_6.f0 == x7_0.f0)), (66, .slice g2.1 s2.1.length g2.2), (67, .agg #[.int .i64 x7_0.f0, .int .i64 x7_0.f1])]) (bx' := [⟨p7_2, [.int .i64 x7_0.f0, .int .i64 x7_0.f1], 40⟩]) (by kernel_rfl) ?_
            refine O.e (some 68) (Ev.lit (t := 22) (len := 1) (parts := #[(0, .tmp 67)]) (ps := [(0, .agg #[.int .i64 x7_0.f0, .int .i64 x7_0.f1])]) (cs := [.int .i64 x7_0.f0, .int .i64 x7_0.f1]) (e := 40) kd40 ([x7_0] : List S40) (by kernel_rfl) (by kernel_rfl) (by kernel_rfl) (by kernel_rfl) (by kernel_rfl) (by decide) (fun w' hφ => (Els.cons (c := [.int .i64 x7_0.f0, .int .i64 x7_0.f1]) (rfl) (Els.nil _ _ _)))) (by kernel_rfl) (fun p14_2 => ?_)
            refine O.e (some 69) (Ev.appLit (x := .tmp 66) (y := .tmp 68) (t := 22) (bytes := 16) (by kernel_rfl) (by kernel_rfl) (by kernel_rfl) (by kernel_rfl) (by kernel_rfl) (by decide) hy14_3a) (by kernel_rfl) (fun p14_3 => ?_)
            refine O.pure 1 [] [0, 8, 23, 24, 25, 34, 35, 36, 37, 38, 39, 40, 41, 42] [] (fr' := [(0, .int .i64 a0), (8, .slice p14_3.1 (s2.1 ++ ([x7_0] : List S40)).length p14_3.2), (23, .slice p5_1.1 x5_1.length p5_1.2), (24, .int .i64 (x5_1.length : Int)), (25, .int .i64 s2.2), (34, .slice g2.1 s2.1.length g2.2), (35, .int .i64 (s2.1.length : Int)), (36, .int .i64 (IntKind.wrap .i64 ((s2.1.length : Int) - 1))), (37, .pointer (some ⟨p9_6.1, 0 + (IntKind.wrap .i64 ((s2.1.length : Int) - 1)).toNat * 2, none⟩)), (38, .pointer (some ⟨p9_6.1, 0 + (IntKind.wrap .i64 ((s2.1.length : Int) - 1)).toNat * 2, none⟩)), (39, .int .i64 x9_6.f0), (40, .pointer (some ⟨p7_2, 0, none⟩)), (41, .int .i64 x7_0.f0), (42, .bool (x9_6.f0 == x7_0.f0))]) (bx' := [⟨p7_2, [.int .i64 x7_0.f0, .int .i64 x7_0.f1], 40⟩]) (by kernel_rfl) ?_
            refine O.nil (by kernel_rfl) ?_
            refine J.out ?_
            refine J.region (by kernel_rfl) ?_
            refine O.pure 2 [] [0, 8, 23, 24, 25, 34, 35, 36, 37, 38, 39, 40, 41, 42] [] (fr' := [(0, .int .i64 a0), (8, .slice p14_3.1 (s2.1 ++ ([x7_0] : List S40)).length p14_3.2), (23, .slice p5_1.1 x5_1.length p5_1.2), (24, .int .i64 (x5_1.length : Int)), (25, .int .i64 (IntKind.wrap .i64 (s2.2 + 1))), (34, .slice g2.1 s2.1.length g2.2), (35, .int .i64 (s2.1.length : Int)), (36, .int .i64 (IntKind.wrap .i64 ((s2.1.length : Int) - 1))), (37, .pointer (some ⟨p9_6.1, 0 + (IntKind.wrap .i64 ((s2.1.length : Int) - 1)).toNat * 2, none⟩)), (38, .pointer (some ⟨p9_6.1, 0 + (IntKind.wrap .i64 ((s2.1.length : Int) - 1)).toNat * 2, none⟩)), (39, .int .i64 x9_6.f0), (40, .pointer (some ⟨p7_2, 0, none⟩)), (41, .int .i64 x7_0.f0), (42, .bool (x9_6.f0 == x7_0.f0))]) (bx' := [⟨p7_2, [.int .i64 x7_0.f0, .int .i64 x7_0.f1], 40⟩]) (by kernel_rfl) ?_
            refine O.nil (by kernel_rfl) ?_
            exact J.conv2 [0, 8, 23, 24, 25] [0] [] [0, 1] (by kernel_rfl) (by kernel_rfl) (by kernel_rfl) (by kernel_rfl) (by decide) (ih2 ((s2.1 ++ ([x7_0] : List S40)), (IntKind.wrap .i64 (s2.2 + 1))) p14_3 H)
        · refine J.drawS (by kernel_rfl) [(0, some 31, .int .i64 (s2.1.length : Int)), (2, some 33, .bool false), (3, some 34, undef), (4, some 35, undef), (5, some 36, undef), (6, some 37, undef), (7, some 38, undef), (8, some 39, undef), (9, some 40, undef), (10, some 41, undef), (11, some 42, undef), (12, some 43, .bool false), (1, some 32, .bool false)] ([0, 2, 3, 4, 5, 6, 7, 8, 9, 10, 11, 12] ++ [1]) (by kernel_rfl) ?_
          refine D.fin (fr' := [(0, .int .i64 a0), (8, .slice g2.1 s2.1.length g2.2), (10, .pointer (some ⟨p7_2, 0, none⟩)), (11, .int .i64 (s2.1.length : Int)), (23, .slice p5_1.1 x5_1.length p5_1.2), (24, .int .i64 (x5_1.length : Int)), (25, .int .i64 s2.2), (34, undef), (35, undef), (36, undef), (37, undef), (38, undef), (39, undef), (40, undef), (41, undef), (42, undef), (43, .bool false)]) [0, 2, 3, 4, 5, 6, 7, 8, 9, 10, 11, 12] [1] [] [] [0, 8, 10, 11, 23, 24, 25, 34, 35, 36, 37, 38, 39, 40, 41, 42, 43] (by kernel_rfl) (by kernel_rfl) (⟨QuAt.mk (v := .bool false) (some 32) (by kernel_rfl) (by kernel_rfl) (Qu.eqv (u := .bool (decide ((s2.1.length : Int) > 0))) (v := .bool false) (0, 0) [] (by kernel_rfl) (congrArg Value.bool hc9)), trivial⟩) (by kernel_rfl) ?_
          refine J.cond (o := .tmp 43) false (by kernel_rfl) (by kernel_rfl) ?_
          refine J.skip (by kernel_rfl) ?_
          obtain ⟨y14_3, hy14_3, H⟩ := bindE H
          have hy14_3a := (appE hy14_3).1
          refine J.region (by kernel_rfl) ?_
          refine O.pure 2 [(0, 0)] [0, 8, 23, 24, 25, 34, 35, 36, 37, 38, 39, 40, 41, 42, 66, 67] [p7_2, 0] (fr' := [(0, .int .i64 a0), (8, .slice g2.1 s2.1.length g2.2), (23, .slice p5_1.1 x5_1.length p5_1.2), (24, .int .i64 (x5_1.length : Int)), (25, .int .i64 s2.2), (34, undef), (35, undef), (36, undef), (37, undef), (38, undef), (39, undef), (40, undef), (41, undef), (42, undef), (66, .slice g2.1 s2.1.length g2.2), (67, .agg #[.int .i64 x7_0.f0, .int .i64 x7_0.f1])]) (bx' := [⟨p7_2, [.int .i64 x7_0.f0, .int .i64 x7_0.f1], 40⟩]) (by kernel_rfl) ?_
          refine O.e (some 68) (Ev.mono (fun w hS => hS.rowsel [1, 0] rfl (by decide)) (Ev.lit (t := 22) (len := 1) (parts := #[(0, .tmp 67)]) (ps := [(0, .agg #[.int .i64 x7_0.f0, .int .i64 x7_0.f1])]) (cs := [.int .i64 x7_0.f0, .int .i64 x7_0.f1]) (e := 40) kd40 ([x7_0] : List S40) (by kernel_rfl) (by kernel_rfl) (by kernel_rfl) (by kernel_rfl) (by kernel_rfl) (by decide) (fun w' hφ => (Els.cons (c := [.int .i64 x7_0.f0, .int .i64 x7_0.f1]) (rfl) (Els.nil _ _ _))))) (by kernel_rfl) (fun p14_2 => ?_)
          refine O.e (some 69) (Ev.appLit (x := .tmp 66) (y := .tmp 68) (t := 22) (bytes := 16) (by kernel_rfl) (by kernel_rfl) (by kernel_rfl) (by kernel_rfl) (by kernel_rfl) (by decide) hy14_3a) (by kernel_rfl) (fun p14_3 => ?_)
          refine O.pure 1 [] [0, 8, 23, 24, 25, 34, 35, 36, 37, 38, 39, 40, 41, 42] [] (fr' := [(0, .int .i64 a0), (8, .slice p14_3.1 (s2.1 ++ ([x7_0] : List S40)).length p14_3.2), (23, .slice p5_1.1 x5_1.length p5_1.2), (24, .int .i64 (x5_1.length : Int)), (25, .int .i64 s2.2), (34, undef), (35, undef), (36, undef), (37, undef), (38, undef), (39, undef), (40, undef), (41, undef), (42, undef)]) (bx' := [⟨p7_2, [.int .i64 x7_0.f0, .int .i64 x7_0.f1], 40⟩]) (by kernel_rfl) ?_
          refine O.nil (by kernel_rfl) ?_
          refine J.out ?_
          refine J.region (by kernel_rfl) ?_
          refine O.pure 2 [] [0, 8, 23, 24, 25, 34, 35, 36, 37, 38, 39, 40, 41, 42] [] (fr' := [(0, .int .i64 a0), (8, .slice p14_3.1 (s2.1 ++ ([x7_0] : List S40)).length p14_3.2), (23, .slice p5_1.1 x5_1.length p5_1.2), (24, .int .i64 (x5_1.length : Int)), (25, .int .i64 (IntKind.wrap .i64 (s2.2 + 1))), (34, undef), (35, undef), (36, undef), (37, undef), (38, undef), (39, undef), (40, undef), (41, undef), (42, undef)]) (bx' := [⟨p7_2, [.int .i64 x7_0.f0, .int .i64 x7_0.f1], 40⟩]) (by kernel_rfl) ?_
          refine O.nil (by kernel_rfl) ?_
          exact J.conv2 [0, 8, 23, 24, 25] [0] [] [0, 1] (by kernel_rfl) (by kernel_rfl) (by kernel_rfl) (by kernel_rfl) (by decide) (ih2 ((s2.1 ++ ([x7_0] : List S40)), (IntKind.wrap .i64 (s2.2 + 1))) p14_3 H)
      · refine J.condF (x := .tmp 26) (t := (decide (s2.2 < (x5_1.length : Int)))) (by kernel_rfl) (by kernel_rfl) hc8 ?_
        refine J.exit (id := 0) (by kernel_rfl) rfl ?_
        refine J.seq (by kernel_rfl) ?_
        refine J.region (by kernel_rfl) ?_
        refine O.pure 3 [] [4, 5] [] (fr' := [(4, .slice g2.1 s2.1.length g2.2), (5, .int .i64 0)]) (bx' := []) (by kernel_rfl) ?_
        refine O.nil (by kernel_rfl) ?_
        obtain rfl := Option.some.inj H
        exact J.doneS [] [] [] [] [0] g2 (vs := [.slice g2.1 s2.1.length g2.2, .int .i64 0]) (by kernel_rfl) (by kernel_rfl) (by kernel_rfl) (by kernel_rfl) (by kernel_rfl) (by decide)
    · refine J.nilrow kd40 40 ?_
      exact J.conv2 [0, 8, 23, 24, 25] [0] [] [0, 1] (by kernel_rfl) (by kernel_rfl) (by kernel_rfl) (by kernel_rfl) (by decide) h_
/-! ### haywain/box.At: function 20 -/
def box_At.l1 (K : Nat) (a0 : List S40) (a1 : Int) : Nat → Int → Option (Int × Bool)
  | 0, _ => none
  | k + 1, s1 => cond (decide (s1 < (a0.length : Int))) ((idxO a0 s1).bind fun x3_0 => cond (x3_0.f0 == a1) (some ((x3_0.f1, true))) (box_At.l1 K a0 a1 k (IntKind.wrap .i64 (s1 + 1)))) (some ((0, false)))
def box_At.f (K : Nat) (a0 : List S40) (a1 : Int) : Option (Int × Bool) := box_At.l1 K a0 a1 K 0
set_option maxRecDepth 100000 in
set_option maxHeartbeats 1000000 in
theorem box_At.con (K : Nat) (a0 : List S40) (a1 : Int) (h0 : Hd) (r : (Int × Bool)) (X : Nat → Nat → Prop) (w : World) (hS : St X w [] [] [] [] [Rd kd40 h0.1 h0.2 a0] w) (H : box_At.f K a0 a1 = some r) :
    Cn Try.prog 20 [.slice h0.1 a0.length h0.2, .int .i64 a1] X w [] (fun i : Unit => .tuple #[.int .i64 r.1, .bool r.2]) (fun i => []) (fun i => []) (fun i => []) := by
  refine Cn.of Try.func20 (by kernel_rfl) hS ?_
  unfold box_At.f at H
  refine J.seq (by kernel_rfl) ?_
  refine J.region (by kernel_rfl) ?_
  refine O.pure 2 [] [0, 1] [] (fr' := [(0, .slice h0.1 a0.length h0.2), (1, .int .i64 a1)]) (bx' := []) (by kernel_rfl) ?_
  refine O.nil (by kernel_rfl) ?_
  refine J.seq (by kernel_rfl) ?_
  refine J.seq (by kernel_rfl) ?_
  refine J.region (by kernel_rfl) ?_
  refine O.pure 3 [] [1, 8, 9, 10] [] (fr' := [(1, .int .i64 a1), (8, .slice h0.1 a0.length h0.2), (9, .int .i64 (a0.length : Int)), (10, .int .i64 0)]) (bx' := []) (by kernel_rfl) ?_
  refine O.nil (by kernel_rfl) ?_
  refine J.block (id := 0) (by kernel_rfl) ?_
  refine J.loopI (σ := Int) (γ := Unit) (f := fun m_ s_ => box_At.l1 K a0 a1 m_ s_) (fun s1 g1 => [(1, .int .i64 a1), (8, .slice h0.1 a0.length h0.2), (9, .int .i64 (a0.length : Int)), (10, .int .i64 s1)]) (fun s1 g1 => St X w [] [] [] [] [Rd kd40 h0.1 h0.2 a0]) K 0 () (by kernel_rfl) H (fun _ => rfl) (fun m_ s1 H ih1 g1 => ?_) (fun h_ => ?_)
  · unfold box_At.l1 at H
    refine J.seq (by kernel_rfl) ?_
    refine J.region (by kernel_rfl) ?_
    refine O.pure 1 [] [1, 8, 9, 10, 11] [] (fr' := [(1, .int .i64 a1), (8, .slice h0.1 a0.length h0.2), (9, .int .i64 (a0.length : Int)), (10, .int .i64 s1), (11, .bool (decide (s1 < (a0.length : Int))))]) (bx' := []) (by kernel_rfl) ?_
    refine O.nil (by kernel_rfl) ?_
    refine J.seq (by kernel_rfl) ?_
    rcases condE H with ⟨hc6, H⟩ | ⟨hc6, H⟩
    · refine J.condT (x := .tmp 11) (t := (decide (s1 < (a0.length : Int)))) (by kernel_rfl) (by kernel_rfl) hc6 ?_
      refine J.skip (by kernel_rfl) ?_
      refine J.seq (by kernel_rfl) ?_
      refine J.block (id := 1) (by kernel_rfl) ?_
      refine J.seq (by kernel_rfl) ?_
      obtain ⟨x3_0, hx3_0, H⟩ := bindE H
      obtain ⟨hx3_0a, hx3_0⟩ := idxE hx3_0
      refine J.region (by kernel_rfl) ?_
      refine O.open (d := kd40) (h := h0) (i := s1) 0 rfl hx3_0 (op40 _) (fun p3_0 hp3_0A => ?_)
      refine O.q (v := .pointer (some ⟨p3_0.1, p3_0.2.1 + s1.toNat * 2, none⟩)) (some 12) (Qu.idx (t := 22) (x := .tmp 8) (y := .tmp 10) (c := h0.2) (kk := .i64) (sz := 2) (by kernel_rfl) (by kernel_rfl) (by kernel_rfl) (by kernel_rfl) hx3_0a (idx_lt hx3_0) hp3_0A) (by kernel_rfl) ?_
      refine O.pure 1 [(0, 0)] [1, 8, 9, 10, 13] [p3_0.1, p3_0.2.1 + s1.toNat * 2] (fr' := [(1, .int .i64 a1), (8, .slice h0.1 a0.length h0.2), (9, .int .i64 (a0.length : Int)), (10, .int .i64 s1), (13, .agg #[.int .i64 x3_0.f0, .int .i64 x3_0.f1])]) (bx' := []) (by kernel_rfl) ?_
      refine O.e (some 7) (Ev.alloc (t := 40) (z := .agg #[.int .i64 0, .int .i64 0]) (by kernel_rfl) (by kernel_rfl)) (by kernel_rfl) (fun p3_2 => ?_)
      refine O.pure 1 [(0, 0)] [1, 7, 8, 9, 10] [p3_2, 0] (fr' := [(1, .int .i64 a1), (7, .pointer (some ⟨p3_2, 0, none⟩)), (8, .slice h0.1 a0.length h0.2), (9, .int .i64 (a0.length : Int)), (10, .int .i64 s1)]) (bx' := [⟨p3_2, [.int .i64 x3_0.f0, .int .i64 x3_0.f1], 40⟩]) (by kernel_rfl) ?_
      refine O.nil (by kernel_rfl) ?_
      refine J.seq (by kernel_rfl) ?_
      refine J.region (by kernel_rfl) ?_
      refine O.pure 4 [(0, 0)] [1, 7, 8, 9, 10, 17] [p3_2, 0] (fr' := [(1, .int .i64 a1), (7, .pointer (some ⟨p3_2, 0, none⟩)), (8, .slice h0.1 a0.length h0.2), (9, .int .i64 (a0.length : Int)), (10, .int .i64 s1), (17, .bool (x3_0.f0 == a1))]) (bx' := [⟨p3_2, [.int .i64 x3_0.f0, .int .i64 x3_0.f1], 40⟩]) (by kernel_rfl) ?_
      refine O.nil (by kernel_rfl) ?_
      rcases condE H with ⟨hc7, H⟩ | ⟨hc7, H⟩
      · refine J.condT (x := .tmp 17) (t := (x3_0.f0 == a1)) (by kernel_rfl) (by kernel_rfl) hc7 ?_
        refine J.seq (by kernel_rfl) ?_
        refine J.region (by kernel_rfl) ?_
        refine O.pure 4 [(0, 1)] [4, 5] [p3_2, 1] (fr' := [(4, .int .i64 x3_0.f1), (5, .bool true)]) (bx' := [⟨p3_2, [.int .i64 x3_0.f0, .int .i64 x3_0.f1], 40⟩]) (by kernel_rfl) ?_
        refine O.nil (by kernel_rfl) ?_
        obtain rfl := Option.some.inj H
        exact J.doneS [] [] [] [] [] () (vs := [.int .i64 x3_0.f1, .bool true]) (by kernel_rfl) (by kernel_rfl) (by kernel_rfl) (by kernel_rfl) (by kernel_rfl) (by decide)
      · refine J.condF (x := .tmp 17) (t := (x3_0.f0 == a1)) (by kernel_rfl) (by kernel_rfl) hc7 ?_
        refine J.skip (by kernel_rfl) ?_
        refine J.out ?_
        refine J.region (by kernel_rfl) ?_
        refine O.pure 2 [] [1, 8, 9, 10] [] (fr' := [(1, .int .i64 a1), (8, .slice h0.1 a0.length h0.2), (9, .int .i64 (a0.length : Int)), (10, .int .i64 (IntKind.wrap .i64 (s1 + 1)))]) (bx' := [⟨p3_2, [.int .i64 x3_0.f0, .int .i64 x3_0.f1], 40⟩]) (by kernel_rfl) ?_
        refine O.nil (by kernel_rfl) ?_
        exact J.conv2 [1, 8, 9, 10] [0] [] [] (by kernel_rfl) (by kernel_rfl) (by kernel_rfl) (by kernel_rfl) (by decide) (ih1 (IntKind.wrap .i64 (s1 + 1)) () H)
    · refine J.condF (x := .tmp 11) (t := (decide (s1 < (a0.length : Int)))) (by kernel_rfl) (by kernel_rfl) hc6 ?_
      refine J.exit (id := 0) (by kernel_rfl) rfl ?_
      refine J.seq (by kernel_rfl) ?_
      refine J.region (by kernel_rfl) ?_
      refine O.pure 2 [] [4, 5] [] (fr' := [(4, .int .i64 0), (5, .bool false)]) (bx' := []) (by kernel_rfl) ?_
      refine O.nil (by kernel_rfl) ?_
      obtain rfl := Option.some.inj H
      exact J.doneS [] [] [] [] [] () (vs := [.int .i64 0, .bool false]) (by kernel_rfl) (by kernel_rfl) (by kernel_rfl) (by kernel_rfl) (by kernel_rfl) (by decide)
  · exact J.conv2 [1, 8, 9, 10] [0] [] [] (by kernel_rfl) (by kernel_rfl) (by kernel_rfl) (by kernel_rfl) (by decide) h_
/-! ### haywain/box.Same: function 22 -/
def box_Same.l2 (K : Nat) (x3_1 : List S40) (x3_3 : List S40) : Nat → Int → Option Bool
  | 0, _ => none
  | k + 1, s2 => cond (decide (s2 < (x3_1.length : Int))) ((idxO x3_1 s2).bind fun x7_2 => (idxO x3_3 s2).bind fun x7_6 => cond (!(x7_2.f0 == x7_6.f0 && (x7_2.f1 == x7_6.f1 && true))) (some (false)) (box_Same.l2 K x3_1 x3_3 k (IntKind.wrap .i64 (s2 + 1)))) (some (true))
def box_Same.f (K : Nat) (a0 : List S40) (a1 : List S40) : Option Bool := cond ((a0.length : Int) != (a1.length : Int)) (some (false)) ((box_Sort.f K a0).bind fun x3_1 => (box_Sort.f K a1).bind fun x3_3 => box_Same.l2 K x3_1 x3_3 K 0)
set_option maxRecDepth 100000 in
set_option maxHeartbeats 1000000 in
theorem box_Same.con (K : Nat) (a0 : List S40) (a1 : List S40) (h0 : Hd) (h1 : Hd) (r : Bool) (X : Nat → Nat → Prop) (w : World) (hS : St X w [] [] [] [] [Rd kd40 h0.1 h0.2 a0, Rd kd40 h1.1 h1.2 a1] w) (H : box_Same.f K a0 a1 = some r) :
    Cn Try.prog 22 [.slice h0.1 a0.length h0.2, .slice h1.1 a1.length h1.2] X w [] (fun i : Unit => .bool r) (fun i => []) (fun i => []) (fun i => []) := by
  refine Cn.of Try.func22 (by kernel_rfl) hS ?_
  unfold box_Same.f at H
  refine J.seq (by kernel_rfl) ?_
  refine J.region (by kernel_rfl) ?_
  refine O.pure 1 [] [0, 1] [] (fr' := [(0, .slice h0.1 a0.length h0.2), (1, .slice h1.1 a1.length h1.2)]) (bx' := []) (by kernel_rfl) ?_
  refine O.nil (by kernel_rfl) ?_
  refine J.seq (by kernel_rfl) ?_
  refine J.seq (by kernel_rfl) ?_
  refine J.region (by kernel_rfl) ?_
  refine O.pure 5 [] [0, 1, 12] [] (fr' := [(0, .slice h0.1 a0.length h0.2), (1, .slice h1.1 a1.length h1.2), (12, .bool ((a0.length : Int) != (a1.length : Int)))]) (bx' := []) (by kernel_rfl) ?_
  refine O.nil (by kernel_rfl) ?_
  rcases condE H with ⟨hc1, H⟩ | ⟨hc1, H⟩
  · refine J.condT (x := .tmp 12) (t := ((a0.length : Int) != (a1.length : Int))) (by kernel_rfl) (by kernel_rfl) hc1 ?_
    refine J.seq (by kernel_rfl) ?_
    refine J.region (by kernel_rfl) ?_
    refine O.pure 1 [] [4] [] (fr' := [(4, .bool false)]) (bx' := []) (by kernel_rfl) ?_
    refine O.nil (by kernel_rfl) ?_
    obtain rfl := Option.some.inj H
    exact J.doneS [] [] [] [] [] () (vs := [.bool false]) (by kernel_rfl) (by kernel_rfl) (by kernel_rfl) (by kernel_rfl) (by kernel_rfl) (by decide)
  · refine J.condF (x := .tmp 12) (t := ((a0.length : Int) != (a1.length : Int))) (by kernel_rfl) (by kernel_rfl) hc1 ?_
    refine J.skip (by kernel_rfl) ?_
    refine J.seq (by kernel_rfl) ?_
    obtain ⟨x3_1, hx3_1, H⟩ := bindE H
    obtain ⟨x3_3, hx3_3, H⟩ := bindE H
    refine J.region (by kernel_rfl) ?_
    refine O.pure 1 [] [1, 13] [] (fr' := [(1, .slice h1.1 a1.length h1.2), (13, .slice h0.1 a0.length h0.2)]) (bx' := []) (by kernel_rfl) ?_
    refine O.e (some 14) (Ev.call0 (xs := [.tmp 13]) [0] (by kernel_rfl) (by kernel_rfl) (fun w hS => box_Sort.con K a0 h0  _ _ w hS hx3_1)) (by kernel_rfl) (fun p3_1 => ?_)
    refine O.pure 1 [] [14, 15] [] (fr' := [(14, .slice p3_1.1 x3_1.length p3_1.2), (15, .slice h1.1 a1.length h1.2)]) (bx' := []) (by kernel_rfl) ?_
    refine O.e (some 16) (Ev.call0 (xs := [.tmp 15]) [1] (by kernel_rfl) (by kernel_rfl) (fun w hS => box_Sort.con K a1 h1  _ _ w hS hx3_3)) (by kernel_rfl) (fun p3_3 => ?_)
    refine O.pure 2 [] [5, 6] [] (fr' := [(5, .slice p3_1.1 x3_1.length p3_1.2), (6, .slice p3_3.1 x3_3.length p3_3.2)]) (bx' := []) (by kernel_rfl) ?_
    refine O.nil (by kernel_rfl) ?_
    refine J.seq (by kernel_rfl) ?_
    refine J.seq (by kernel_rfl) ?_
    refine J.region (by kernel_rfl) ?_
    refine O.pure 3 [] [5, 6, 18, 19] [] (fr' := [(5, .slice p3_1.1 x3_1.length p3_1.2), (6, .slice p3_3.1 x3_3.length p3_3.2), (18, .int .i64 (x3_1.length : Int)), (19, .int .i64 0)]) (bx' := []) (by kernel_rfl) ?_
    refine O.nil (by kernel_rfl) ?_
    refine J.block (id := 0) (by kernel_rfl) ?_
    refine J.loopI (σ := Int) (γ := Unit) (f := fun m_ s_ => box_Same.l2 K x3_1 x3_3 m_ s_) (fun s2 g2 => [(5, .slice p3_1.1 x3_1.length p3_1.2), (6, .slice p3_3.1 x3_3.length p3_3.2), (18, .int .i64 (x3_1.length : Int)), (19, .int .i64 s2)]) (fun s2 g2 => St X w [] [] [] [] [Rd kd40 h0.1 h0.2 a0, Rd kd40 h1.1 h1.2 a1, Rd kd40 p3_3.1 p3_3.2 x3_3, Rd kd40 p3_1.1 p3_1.2 x3_1]) K 0 () (by kernel_rfl) H (fun _ => rfl) (fun m_ s2 H ih2 g2 => ?_) (fun h_ => ?_)
    · unfold box_Same.l2 at H
      refine J.seq (by kernel_rfl) ?_
      refine J.region (by kernel_rfl) ?_
      refine O.pure 1 [] [5, 6, 18, 19, 20] [] (fr' := [(5, .slice p3_1.1 x3_1.length p3_1.2), (6, .slice p3_3.1 x3_3.length p3_3.2), (18, .int .i64 (x3_1.length : Int)), (19, .int .i64 s2), (20, .bool (decide (s2 < (x3_1.length : Int))))]) (bx' := []) (by kernel_rfl) ?_
      refine O.nil (by kernel_rfl) ?_
      refine J.seq (by kernel_rfl) ?_
      rcases condE H with ⟨hc7, H⟩ | ⟨hc7, H⟩
      · refine J.condT (x := .tmp 20) (t := (decide (s2 < (x3_1.length : Int)))) (by kernel_rfl) (by kernel_rfl) hc7 ?_
        refine J.skip (by kernel_rfl) ?_
        refine J.seq (by kernel_rfl) ?_
        refine J.block (id := 1) (by kernel_rfl) ?_
        refine J.seq (by kernel_rfl) ?_
        refine J.region (by kernel_rfl) ?_
        refine O.pure 2 [] [5, 6, 7, 18, 19] [] (fr' := [(5, .slice p3_1.1 x3_1.length p3_1.2), (6, .slice p3_3.1 x3_3.length p3_3.2), (7, .int .i64 s2), (18, .int .i64 (x3_1.length : Int)), (19, .int .i64 s2)]) (bx' := []) (by kernel_rfl) ?_
        refine O.nil (by kernel_rfl) ?_
        refine J.seq (by kernel_rfl) ?_
        obtain ⟨x7_2, hx7_2, H⟩ := bindE H
        obtain ⟨hx7_2a, hx7_2⟩ := idxE hx7_2
        obtain ⟨x7_6, hx7_6, H⟩ := bindE H
        obtain ⟨hx7_6a, hx7_6⟩ := idxE hx7_6
        refine J.open (d := kd40) (h := p3_1) (i := s2) 3 rfl hx7_2 (op40 _) (fun p7_2 hp7_2A => ?_)
        refine J.open (d := kd40) (h := p3_3) (i := s2) 2 rfl hx7_6 (op40 _) (fun p7_6 hp7_6A => ?_)
        refine J.drawS (by kernel_rfl) [(0, some 22, .slice p3_1.1 x3_1.length p3_1.2), (1, some 23, .int .i64 s2), (3, some 25, .agg #[.int .i64 x7_2.f0, .int .i64 x7_2.f1]), (4, some 26, .slice p3_3.1 x3_3.length p3_3.2), (5, some 27, .int .i64 s2), (7, some 29, .agg #[.int .i64 x7_6.f0, .int .i64 x7_6.f1]), (2, some 24, .pointer (some ⟨p7_2.1, p7_2.2.1 + s2.toNat * 2, none⟩)), (6, some 28, .pointer (some ⟨p7_6.1, p7_6.2.1 + s2.toNat * 2, none⟩)), (8, some 30, .bool (!(x7_2.f0 == x7_6.f0 && (x7_2.f1 == x7_6.f1 && true))))] ([0, 1, 3, 4, 5, 7] ++ [2, 6, 8]) (by kernel_rfl) ?_
        refine D.fin (fr' := [(5, .slice p3_1.1 x3_1.length p3_1.2), (6, .slice p3_3.1 x3_3.length p3_3.2), (18, .int .i64 (x3_1.length : Int)), (19, .int .i64 s2), (30, .bool (!(x7_2.f0 == x7_6.f0 && (x7_2.f1 == x7_6.f1 && true))))]) [0, 1, 3, 4, 5, 7] [2, 6, 8] [(1, 0), (0, 0)] [p7_2.1, p7_2.2.1 + s2.toNat * 2, p7_6.1, p7_6.2.1 + s2.toNat * 2] [5, 6, 18, 19, 30] (by kernel_rfl) (by kernel_rfl) (⟨QuAt.mk (v := .pointer (some ⟨p7_2.1, p7_2.2.1 + s2.toNat * 2, none⟩)) (some 24) (by kernel_rfl) (by kernel_rfl) (Qu.idx (t := 22) (x := .tmp 22) (y := .tmp 23) (c := p3_1.2) (kk := .i64) (sz := 2) (by kernel_rfl) (by kernel_rfl) (by kernel_rfl) (by kernel_rfl) hx7_2a (idx_lt hx7_2) hp7_2A), QuAt.mk (v := .pointer (some ⟨p7_6.1, p7_6.2.1 + s2.toNat * 2, none⟩)) (some 28) (by kernel_rfl) (by kernel_rfl) (Qu.idx (t := 22) (x := .tmp 26) (y := .tmp 27) (c := p3_3.2) (kk := .i64) (sz := 2) (by kernel_rfl) (by kernel_rfl) (by kernel_rfl) (by kernel_rfl) hx7_6a (idx_lt hx7_6) hp7_6A), QuAt.mk (v := .bool (!(x7_2.f0 == x7_6.f0 && (x7_2.f1 == x7_6.f1 && true)))) (some 30) (by kernel_rfl) (by kernel_rfl) (Qu.binT (op := .neq) (t := 40) (t' := 40) (x := .tmp 25) (y := .tmp 29) (u := .agg #[.int .i64 x7_2.f0, .int .i64 x7_2.f1]) (v := .agg #[.int .i64 x7_6.f0, .int .i64 x7_6.f1]) (by kernel_rfl) (by kernel_rfl) (by kernel_rfl) (by kernel_rfl)), trivial⟩) (by kernel_rfl) ?_
        rcases condE H with ⟨hc8, H⟩ | ⟨hc8, H⟩
        · refine J.condT (x := .tmp 30) (t := (!(x7_2.f0 == x7_6.f0 && (x7_2.f1 == x7_6.f1 && true)))) (by kernel_rfl) (by kernel_rfl) hc8 ?_
          refine J.seq (by kernel_rfl) ?_
          refine J.region (by kernel_rfl) ?_
          refine O.pure 1 [] [4] [] (fr' := [(4, .bool false)]) (bx' := []) (by kernel_rfl) ?_
          refine O.nil (by kernel_rfl) ?_
          obtain rfl := Option.some.inj H
          exact J.doneS [] [] [] [] [] () (vs := [.bool false]) (by kernel_rfl) (by kernel_rfl) (by kernel_rfl) (by kernel_rfl) (by kernel_rfl) (by decide)
        · refine J.condF (x := .tmp 30) (t := (!(x7_2.f0 == x7_6.f0 && (x7_2.f1 == x7_6.f1 && true)))) (by kernel_rfl) (by kernel_rfl) hc8 ?_
          refine J.skip (by kernel_rfl) ?_
          refine J.out ?_
          refine J.region (by kernel_rfl) ?_
          refine O.pure 2 [] [5, 6, 18, 19] [] (fr' := [(5, .slice p3_1.1 x3_1.length p3_1.2), (6, .slice p3_3.1 x3_3.length p3_3.2), (18, .int .i64 (x3_1.length : Int)), (19, .int .i64 (IntKind.wrap .i64 (s2 + 1)))]) (bx' := []) (by kernel_rfl) ?_
          refine O.nil (by kernel_rfl) ?_
          exact J.conv2 [5, 6, 18, 19] [0, 1, 2, 3] [] [] (by kernel_rfl) (by kernel_rfl) (by kernel_rfl) (by kernel_rfl) (by decide) (ih2 (IntKind.wrap .i64 (s2 + 1)) () H)
      · refine J.condF (x := .tmp 20) (t := (decide (s2 < (x3_1.length : Int)))) (by kernel_rfl) (by kernel_rfl) hc7 ?_
        refine J.exit (id := 0) (by kernel_rfl) rfl ?_
        refine J.seq (by kernel_rfl) ?_
        refine J.region (by kernel_rfl) ?_
        refine O.pure 1 [] [4] [] (fr' := [(4, .bool true)]) (bx' := []) (by kernel_rfl) ?_
        refine O.nil (by kernel_rfl) ?_
        obtain rfl := Option.some.inj H
        exact J.doneS [] [] [] [] [] () (vs := [.bool true]) (by kernel_rfl) (by kernel_rfl) (by kernel_rfl) (by kernel_rfl) (by kernel_rfl) (by decide)
    · refine J.mono (fun w hS => hS.freezeH (h := p3_3) (xs := x3_3)) ?_
      refine J.mono (fun w hS => hS.freezeH (h := p3_1) (xs := x3_1)) ?_
      exact J.conv2 [5, 6, 18, 19] [2, 3, 1, 0] [] [] (by kernel_rfl) (by kernel_rfl) (by kernel_rfl) (by kernel_rfl) (by decide) h_
/-! ### haywain/haywainlaw05.knows: function 11 -/
def haywainlaw05_knows.f (K : Nat) : Option Bool := (box_Sort.f K ([(⟨1, 5⟩ : S40), (⟨0, 9⟩ : S40), (⟨1, 2⟩ : S40)] : List S40)).bind fun x2_1 => (box_Fold.f K 5 ([(⟨1, 5⟩ : S40), (⟨0, 9⟩ : S40), (⟨1, 2⟩ : S40)] : List S40)).bind fun x3_1 => (box_At.f K ([(⟨1, 5⟩ : S40), (⟨0, 9⟩ : S40), (⟨1, 2⟩ : S40)] : List S40) 1).bind fun x4_1 => cond ((x2_1.length : Int) == 3) ((idxO x2_1 1).bind fun x5_5 => cond (x5_5.f0 == 1 && (x5_5.f1 == 2 && true)) (cond ((x3_1.1.length : Int) == 2) ((idxO x3_1.1 1).bind fun x5_17 => cond (x5_17.f1 == 7) (cond (x3_1.2 == 0) (cond (x4_1.1 == 5) (cond x4_1.2 ((box_Same.f K x2_1 ([(⟨1, 5⟩ : S40), (⟨0, 9⟩ : S40), (⟨1, 2⟩ : S40)] : List S40)).bind fun x5_36 => cond x5_36 ((box_Join.f K ([([(⟨1, 5⟩ : S40), (⟨0, 9⟩ : S40), (⟨1, 2⟩ : S40)] : List S40), ([(⟨1, 5⟩ : S40), (⟨0, 9⟩ : S40), (⟨1, 2⟩ : S40)] : List S40)] : List (List S40))).bind fun x5_42 => some (((x5_42.length : Int) == 6))) (some (false))) (some (false))) (some (false))) (some (false))) (some (false))) (some (false))) (some (false))) (some (false))
set_option maxRecDepth 100000 in
set_option maxHeartbeats 1000000 in
theorem haywainlaw05_knows.con (K : Nat) (r : Bool) (X : Nat → Nat → Prop) (w : World) (hS : St X w [] [] [] [] [] w) (H : haywainlaw05_knows.f K = some r) :
    Cn Try.prog 11 [] X w [] (fun i : Unit => .bool r) (fun i => []) (fun i => []) (fun i => []) := by
  refine Cn.of Try.func11 (by kernel_rfl) hS ?_
  unfold haywainlaw05_knows.f at H
  refine J.seq (by kernel_rfl) ?_
  refine J.region (by kernel_rfl) ?_
  refine O.pure 1 [] [] [] (fr' := []) (bx' := []) (by kernel_rfl) ?_
  refine O.nil (by kernel_rfl) ?_
  refine J.seq (by kernel_rfl) ?_
  refine J.region (by kernel_rfl) ?_
  refine O.pure 3 [] [7, 8, 9] [] (fr' := [(7, .agg #[.int .i64 1, .int .i64 5]), (8, .agg #[.int .i64 0, .int .i64 9]), (9, .agg #[.int .i64 1, .int .i64 2])]) (bx' := []) (by kernel_rfl) ?_
  refine O.e (some 10) (Ev.lit (t := 22) (len := 3) (parts := #[(0, .tmp 7), (1, .tmp 8), (2, .tmp 9)]) (ps := [(0, .agg #[.int .i64 1, .int .i64 5]), (1, .agg #[.int .i64 0, .int .i64 9]), (2, .agg #[.int .i64 1, .int .i64 2])]) (cs := [.int .i64 1, .int .i64 5, .int .i64 0, .int .i64 9, .int .i64 1, .int .i64 2]) (e := 40) kd40 ([(⟨1, 5⟩ : S40), (⟨0, 9⟩ : S40), (⟨1, 2⟩ : S40)] : List S40) (by kernel_rfl) (by kernel_rfl) (by kernel_rfl) (by kernel_rfl) (by kernel_rfl) (by decide) (fun w' hφ => (Els.cons (c := [.int .i64 1, .int .i64 5]) (rfl) (Els.cons (c := [.int .i64 0, .int .i64 9]) (rfl) (Els.cons (c := [.int .i64 1, .int .i64 2]) (rfl) (Els.nil _ _ _)))))) (by kernel_rfl) (fun p1_3 => ?_)
  refine O.pure 1 [] [1] [] (fr' := [(1, .slice ((some ⟨p1_3, 0, none⟩, 3) : Hd).1 ([(⟨1, 5⟩ : S40), (⟨0, 9⟩ : S40), (⟨1, 2⟩ : S40)] : List S40).length ((some ⟨p1_3, 0, none⟩, 3) : Hd).2)]) (bx' := []) (by kernel_rfl) ?_
  refine O.nil (by kernel_rfl) ?_
  refine J.seq (by kernel_rfl) ?_
  obtain ⟨x2_1, hx2_1, H⟩ := bindE H
  refine J.region (by kernel_rfl) ?_
  refine O.pure 1 [] [1, 11] [] (fr' := [(1, .slice ((some ⟨p1_3, 0, none⟩, 3) : Hd).1 ([(⟨1, 5⟩ : S40), (⟨0, 9⟩ : S40), (⟨1, 2⟩ : S40)] : List S40).length ((some ⟨p1_3, 0, none⟩, 3) : Hd).2), (11, .slice ((some ⟨p1_3, 0, none⟩, 3) : Hd).1 ([(⟨1, 5⟩ : S40), (⟨0, 9⟩ : S40), (⟨1, 2⟩ : S40)] : List S40).length ((some ⟨p1_3, 0, none⟩, 3) : Hd).2)]) (bx' := []) (by kernel_rfl) ?_
  refine O.e (some 12) (Ev.callL (hh := ((some ⟨p1_3, 0, none⟩, 3) : Hd)) (xs := ([(⟨1, 5⟩ : S40), (⟨0, 9⟩ : S40), (⟨1, 2⟩ : S40)] : List S40)) (m := ([(⟨1, 5⟩ : S40), (⟨0, 9⟩ : S40), (⟨1, 2⟩ : S40)] : List S40).length) (xs1 := [.tmp 11]) [0] rfl (by kernel_rfl) (by kernel_rfl) (fun _ q hq _ _ _ h => by obtain rfl := List.mem_singleton.1 hq; exact h) (fun w hS => box_Sort.con K ([(⟨1, 5⟩ : S40), (⟨0, 9⟩ : S40), (⟨1, 2⟩ : S40)] : List S40) ((some ⟨p1_3, 0, none⟩, 3) : Hd)  _ _ w hS hx2_1)) (by kernel_rfl) (fun p2_1 => ?_)
  refine O.pure 1 [] [1, 2] [] (fr' := [(1, .slice ((some ⟨p1_3, 0, none⟩, 3) : Hd).1 ([(⟨1, 5⟩ : S40), (⟨0, 9⟩ : S40), (⟨1, 2⟩ : S40)] : List S40).length ((some ⟨p1_3, 0, none⟩, 3) : Hd).2), (2, .slice p2_1.1 x2_1.length p2_1.2)]) (bx' := []) (by kernel_rfl) ?_
  refine O.nil (by kernel_rfl) ?_
  refine J.seq (by kernel_rfl) ?_
  obtain ⟨x3_1, hx3_1, H⟩ := bindE H
  refine J.region (by kernel_rfl) ?_
  refine O.pure 1 [] [1, 2, 14] [] (fr' := [(1, .slice ((some ⟨p1_3, 0, none⟩, 3) : Hd).1 ([(⟨1, 5⟩ : S40), (⟨0, 9⟩ : S40), (⟨1, 2⟩ : S40)] : List S40).length ((some ⟨p1_3, 0, none⟩, 3) : Hd).2), (2, .slice p2_1.1 x2_1.length p2_1.2), (14, .slice ((some ⟨p1_3, 0, none⟩, 3) : Hd).1 ([(⟨1, 5⟩ : S40), (⟨0, 9⟩ : S40), (⟨1, 2⟩ : S40)] : List S40).length ((some ⟨p1_3, 0, none⟩, 3) : Hd).2)]) (bx' := []) (by kernel_rfl) ?_
  refine O.e (some 15) (Ev.mono (fun w hS => hS.rowsel [1, 0] rfl (by decide)) (Ev.callL (hh := ((some ⟨p1_3, 0, none⟩, 3) : Hd)) (xs := ([(⟨1, 5⟩ : S40), (⟨0, 9⟩ : S40), (⟨1, 2⟩ : S40)] : List S40)) (m := ([(⟨1, 5⟩ : S40), (⟨0, 9⟩ : S40), (⟨1, 2⟩ : S40)] : List S40).length) (xs1 := [.const (.int .i64 5), .tmp 14]) [0] rfl (by kernel_rfl) (by kernel_rfl) (fun _ q hq _ _ _ h => by obtain rfl := List.mem_singleton.1 hq; exact h) (fun w hS => box_Fold.con K 5 ([(⟨1, 5⟩ : S40), (⟨0, 9⟩ : S40), (⟨1, 2⟩ : S40)] : List S40) ((some ⟨p1_3, 0, none⟩, 3) : Hd)  _ _ w hS hx3_1))) (by kernel_rfl) (fun p3_1 => ?_)
  refine O.pure 5 [] [1, 2, 3, 4] [] (fr' := [(1, .slice ((some ⟨p1_3, 0, none⟩, 3) : Hd).1 ([(⟨1, 5⟩ : S40), (⟨0, 9⟩ : S40), (⟨1, 2⟩ : S40)] : List S40).length ((some ⟨p1_3, 0, none⟩, 3) : Hd).2), (2, .slice p2_1.1 x2_1.length p2_1.2), (3, .slice p3_1.1 x3_1.1.length p3_1.2), (4, .int .i64 x3_1.2)]) (bx' := []) (by kernel_rfl) ?_
  refine O.nil (by kernel_rfl) ?_
  refine J.seq (by kernel_rfl) ?_
  obtain ⟨x4_1, hx4_1, H⟩ := bindE H
  refine J.region (by kernel_rfl) ?_
  refine O.pure 1 [] [1, 2, 3, 4, 19] [] (fr' := [(1, .slice ((some ⟨p1_3, 0, none⟩, 3) : Hd).1 ([(⟨1, 5⟩ : S40), (⟨0, 9⟩ : S40), (⟨1, 2⟩ : S40)] : List S40).length ((some ⟨p1_3, 0, none⟩, 3) : Hd).2), (2, .slice p2_1.1 x2_1.length p2_1.2), (3, .slice p3_1.1 x3_1.1.length p3_1.2), (4, .int .i64 x3_1.2), (19, .slice ((some ⟨p1_3, 0, none⟩, 3) : Hd).1 ([(⟨1, 5⟩ : S40), (⟨0, 9⟩ : S40), (⟨1, 2⟩ : S40)] : List S40).length ((some ⟨p1_3, 0, none⟩, 3) : Hd).2)]) (bx' := []) (by kernel_rfl) ?_
  refine O.e (some 20) (Ev.mono (fun w hS => hS.rowsel [1, 0, 2] rfl (by decide)) (Ev.callL (hh := ((some ⟨p1_3, 0, none⟩, 3) : Hd)) (xs := ([(⟨1, 5⟩ : S40), (⟨0, 9⟩ : S40), (⟨1, 2⟩ : S40)] : List S40)) (m := ([(⟨1, 5⟩ : S40), (⟨0, 9⟩ : S40), (⟨1, 2⟩ : S40)] : List S40).length) (xs1 := [.tmp 19, .const (.int .i64 1)]) [0] rfl (by kernel_rfl) (by kernel_rfl) (fun _ q hq => by cases hq) (fun w hS => box_At.con K ([(⟨1, 5⟩ : S40), (⟨0, 9⟩ : S40), (⟨1, 2⟩ : S40)] : List S40) 1 ((some ⟨p1_3, 0, none⟩, 3) : Hd)  _ _ w hS hx4_1))) (by kernel_rfl) (fun _ => ?_)
  refine O.pure 5 [] [1, 2, 3, 4, 5, 6] [] (fr' := [(1, .slice ((some ⟨p1_3, 0, none⟩, 3) : Hd).1 ([(⟨1, 5⟩ : S40), (⟨0, 9⟩ : S40), (⟨1, 2⟩ : S40)] : List S40).length ((some ⟨p1_3, 0, none⟩, 3) : Hd).2), (2, .slice p2_1.1 x2_1.length p2_1.2), (3, .slice p3_1.1 x3_1.1.length p3_1.2), (4, .int .i64 x3_1.2), (5, .int .i64 x4_1.1), (6, .bool x4_1.2)]) (bx' := []) (by kernel_rfl) ?_
  refine O.nil (by kernel_rfl) ?_
  refine J.seq (by kernel_rfl) ?_
  rcases condE H with ⟨hc1, H⟩ | ⟨hc1, H⟩
  · obtain ⟨x5_5, hx5_5, H⟩ := bindE H
    obtain ⟨hx5_5a, hx5_5⟩ := idxE hx5_5
    rcases condE H with ⟨hc2, H⟩ | ⟨hc2, H⟩
    · rcases condE H with ⟨hc3, H⟩ | ⟨hc3, H⟩
      · obtain ⟨x5_17, hx5_17, H⟩ := bindE H
        obtain ⟨hx5_17a, hx5_17⟩ := idxE hx5_17
        rcases condE H with ⟨hc4, H⟩ | ⟨hc4, H⟩
        · rcases condE H with ⟨hc5, H⟩ | ⟨hc5, H⟩
          · rcases condE H with ⟨hc6, H⟩ | ⟨hc6, H⟩
            · rcases condE H with ⟨hc7, H⟩ | ⟨hc7, H⟩
              · obtain ⟨x5_36, hx5_36, H⟩ := bindE H
                rcases condE H with ⟨hc8, H⟩ | ⟨hc8, H⟩
                · obtain ⟨x5_42, hx5_42, H⟩ := bindE H
                  refine J.region (by kernel_rfl) ?_
                  refine O.pure 2 [] [1, 2, 3, 4, 5, 6, 24] [] (fr' := [(1, .slice ((some ⟨p1_3, 0, none⟩, 3) : Hd).1 ([(⟨1, 5⟩ : S40), (⟨0, 9⟩ : S40), (⟨1, 2⟩ : S40)] : List S40).length ((some ⟨p1_3, 0, none⟩, 3) : Hd).2), (2, .slice p2_1.1 x2_1.length p2_1.2), (3, .slice p3_1.1 x3_1.1.length p3_1.2), (4, .int .i64 x3_1.2), (5, .int .i64 x4_1.1), (6, .bool x4_1.2), (24, .int .i64 (x2_1.length : Int))]) (bx' := []) (by kernel_rfl) ?_
                  refine O.q (v := .bool true) (some 25) (Qu.eqv (u := .bool ((x2_1.length : Int) == 3)) (v := .bool true) (0, 0) [] (by kernel_rfl) (congrArg Value.bool hc1)) (by kernel_rfl) ?_
                  refine O.pure 2 [] [1, 2, 3, 4, 5, 6, 26, 27] [] (fr' := [(1, .slice ((some ⟨p1_3, 0, none⟩, 3) : Hd).1 ([(⟨1, 5⟩ : S40), (⟨0, 9⟩ : S40), (⟨1, 2⟩ : S40)] : List S40).length ((some ⟨p1_3, 0, none⟩, 3) : Hd).2), (2, .slice p2_1.1 x2_1.length p2_1.2), (3, .slice p3_1.1 x3_1.1.length p3_1.2), (4, .int .i64 x3_1.2), (5, .int .i64 x4_1.1), (6, .bool x4_1.2), (26, .bool true), (27, .slice p2_1.1 x2_1.length p2_1.2)]) (bx' := []) (by kernel_rfl) ?_
                  refine O.mono (fun w hS => hS.rowsel [2, 0, 1] rfl (by decide)) ?_
                  refine O.mono (fun w hS => hS.freezeH (h := p2_1) (xs := x2_1)) ?_
                  refine O.open (d := kd40) (h := p2_1) (i := 1) 0 rfl hx5_5 (op40 _) (fun p5_5 hp5_5A => ?_)
                  refine O.q (v := .pointer (some ⟨p5_5.1, p5_5.2.1 + (1 : Int).toNat * 2, none⟩)) (some 28) (Qu.idx (t := 22) (x := .tmp 27) (y := .const (.int .i64 1)) (c := p2_1.2) (kk := .i64) (sz := 2) (by kernel_rfl) (by kernel_rfl) (by kernel_rfl) (by kernel_rfl) hx5_5a (idx_lt hx5_5) hp5_5A) (by kernel_rfl) ?_
                  refine O.pure 2 [(0, 0)] [1, 2, 3, 4, 5, 6, 26, 29, 30] [p5_5.1, p5_5.2.1 + (1 : Int).toNat * 2] (fr' := [(1, .slice ((some ⟨p1_3, 0, none⟩, 3) : Hd).1 ([(⟨1, 5⟩ : S40), (⟨0, 9⟩ : S40), (⟨1, 2⟩ : S40)] : List S40).length ((some ⟨p1_3, 0, none⟩, 3) : Hd).2), (2, .slice p2_1.1 x2_1.length p2_1.2), (3, .slice p3_1.1 x3_1.1.length p3_1.2), (4, .int .i64 x3_1.2), (5, .int .i64 x4_1.1), (6, .bool x4_1.2), (26, .bool true), (29, .agg #[.int .i64 x5_5.f0, .int .i64 x5_5.f1]), (30, .agg #[.int .i64 1, .int .i64 2])]) (bx' := []) (by kernel_rfl) ?_
                  refine O.q (v := .bool true) (some 31) (Qu.as (congrArg Value.bool hc2) (Qu.binT (op := .eql) (t := 40) (t' := 40) (x := .tmp 29) (y := .tmp 30) (u := .agg #[.int .i64 x5_5.f0, .int .i64 x5_5.f1]) (v := .agg #[.int .i64 1, .int .i64 2]) (by kernel_rfl) (by kernel_rfl) (by kernel_rfl) (by kernel_rfl))) (by kernel_rfl) ?_
                  refine O.pure 4 [] [1, 2, 3, 4, 5, 6, 33, 35] [] (fr' := [(1, .slice ((some ⟨p1_3, 0, none⟩, 3) : Hd).1 ([(⟨1, 5⟩ : S40), (⟨0, 9⟩ : S40), (⟨1, 2⟩ : S40)] : List S40).length ((some ⟨p1_3, 0, none⟩, 3) : Hd).2), (2, .slice p2_1.1 x2_1.length p2_1.2), (3, .slice p3_1.1 x3_1.1.length p3_1.2), (4, .int .i64 x3_1.2), (5, .int .i64 x4_1.1), (6, .bool x4_1.2), (33, .bool true), (35, .int .i64 (x3_1.1.length : Int))]) (bx' := []) (by kernel_rfl) ?_
                  refine O.q (v := .bool true) (some 36) (Qu.eqv (u := .bool ((x3_1.1.length : Int) == 2)) (v := .bool true) (0, 0) [] (by kernel_rfl) (congrArg Value.bool hc3)) (by kernel_rfl) ?_
                  refine O.pure 3 [] [1, 2, 4, 5, 6, 38, 39] [] (fr' := [(1, .slice ((some ⟨p1_3, 0, none⟩, 3) : Hd).1 ([(⟨1, 5⟩ : S40), (⟨0, 9⟩ : S40), (⟨1, 2⟩ : S40)] : List S40).length ((some ⟨p1_3, 0, none⟩, 3) : Hd).2), (2, .slice p2_1.1 x2_1.length p2_1.2), (4, .int .i64 x3_1.2), (5, .int .i64 x4_1.1), (6, .bool x4_1.2), (38, .bool true), (39, .slice p3_1.1 x3_1.1.length p3_1.2)]) (bx' := []) (by kernel_rfl) ?_
                  refine O.mono (fun w hS => hS.rowsel [1, 0] rfl (by decide)) ?_
                  refine O.mono (fun w hS => hS.freezeH (h := p3_1) (xs := x3_1.1)) ?_
                  refine O.open (d := kd40) (h := p3_1) (i := 1) 0 rfl hx5_17 (op40 _) (fun p5_17 hp5_17A => ?_)
                  refine O.q (v := .pointer (some ⟨p5_17.1, p5_17.2.1 + (1 : Int).toNat * 2, none⟩)) (some 40) (Qu.idx (t := 22) (x := .tmp 39) (y := .const (.int .i64 1)) (c := p3_1.2) (kk := .i64) (sz := 2) (by kernel_rfl) (by kernel_rfl) (by kernel_rfl) (by kernel_rfl) hx5_17a (idx_lt hx5_17) hp5_17A) (by kernel_rfl) ?_
                  refine O.pure 2 [(0, 1)] [1, 2, 4, 5, 6, 38, 42] [p5_17.1, p5_17.2.1 + (1 : Int).toNat * 2 + 1] (fr' := [(1, .slice ((some ⟨p1_3, 0, none⟩, 3) : Hd).1 ([(⟨1, 5⟩ : S40), (⟨0, 9⟩ : S40), (⟨1, 2⟩ : S40)] : List S40).length ((some ⟨p1_3, 0, none⟩, 3) : Hd).2), (2, .slice p2_1.1 x2_1.length p2_1.2), (4, .int .i64 x3_1.2), (5, .int .i64 x4_1.1), (6, .bool x4_1.2), (38, .bool true), (42, .int .i64 x5_17.f1)]) (bx' := []) (by kernel_rfl) ?_
                  refine O.q (v := .bool true) (some 43) (Qu.eqv (u := .bool (x5_17.f1 == 7)) (v := .bool true) (0, 0) [] (by kernel_rfl) (congrArg Value.bool hc4)) (by kernel_rfl) ?_
                  refine O.pure 3 [] [1, 2, 5, 6, 45, 46] [] (fr' := [(1, .slice ((some ⟨p1_3, 0, none⟩, 3) : Hd).1 ([(⟨1, 5⟩ : S40), (⟨0, 9⟩ : S40), (⟨1, 2⟩ : S40)] : List S40).length ((some ⟨p1_3, 0, none⟩, 3) : Hd).2), (2, .slice p2_1.1 x2_1.length p2_1.2), (5, .int .i64 x4_1.1), (6, .bool x4_1.2), (45, .bool true), (46, .int .i64 x3_1.2)]) (bx' := []) (by kernel_rfl) ?_
                  refine O.q (v := .bool true) (some 47) (Qu.eqv (u := .bool (x3_1.2 == 0)) (v := .bool true) (0, 0) [] (by kernel_rfl) (congrArg Value.bool hc5)) (by kernel_rfl) ?_
                  refine O.pure 3 [] [1, 2, 6, 49, 50] [] (fr' := [(1, .slice ((some ⟨p1_3, 0, none⟩, 3) : Hd).1 ([(⟨1, 5⟩ : S40), (⟨0, 9⟩ : S40), (⟨1, 2⟩ : S40)] : List S40).length ((some ⟨p1_3, 0, none⟩, 3) : Hd).2), (2, .slice p2_1.1 x2_1.length p2_1.2), (6, .bool x4_1.2), (49, .bool true), (50, .int .i64 x4_1.1)]) (bx' := []) (by kernel_rfl) ?_
                  refine O.q (v := .bool true) (some 51) (Qu.eqv (u := .bool (x4_1.1 == 5)) (v := .bool true) (0, 0) [] (by kernel_rfl) (congrArg Value.bool hc6)) (by kernel_rfl) ?_
                  refine O.pure 2 [] [1, 2, 6, 53] [] (fr' := [(1, .slice ((some ⟨p1_3, 0, none⟩, 3) : Hd).1 ([(⟨1, 5⟩ : S40), (⟨0, 9⟩ : S40), (⟨1, 2⟩ : S40)] : List S40).length ((some ⟨p1_3, 0, none⟩, 3) : Hd).2), (2, .slice p2_1.1 x2_1.length p2_1.2), (6, .bool x4_1.2), (53, .bool true)]) (bx' := []) (by kernel_rfl) ?_
                  refine O.q (v := .bool true) (some 54) (Qu.eqv (u := .bool x4_1.2) (v := .bool true) (0, 0) [] (by kernel_rfl) (congrArg Value.bool hc7)) (by kernel_rfl) ?_
                  refine O.pure 4 [] [1, 56, 57, 58] [] (fr' := [(1, .slice ((some ⟨p1_3, 0, none⟩, 3) : Hd).1 ([(⟨1, 5⟩ : S40), (⟨0, 9⟩ : S40), (⟨1, 2⟩ : S40)] : List S40).length ((some ⟨p1_3, 0, none⟩, 3) : Hd).2), (56, .bool true), (57, .slice p2_1.1 x2_1.length p2_1.2), (58, .slice ((some ⟨p1_3, 0, none⟩, 3) : Hd).1 ([(⟨1, 5⟩ : S40), (⟨0, 9⟩ : S40), (⟨1, 2⟩ : S40)] : List S40).length ((some ⟨p1_3, 0, none⟩, 3) : Hd).2)]) (bx' := []) (by kernel_rfl) ?_
                  refine O.e (some 59) (Ev.callL (hh := ((some ⟨p1_3, 0, none⟩, 3) : Hd)) (xs := ([(⟨1, 5⟩ : S40), (⟨0, 9⟩ : S40), (⟨1, 2⟩ : S40)] : List S40)) (m := ([(⟨1, 5⟩ : S40), (⟨0, 9⟩ : S40), (⟨1, 2⟩ : S40)] : List S40).length) (xs1 := [.tmp 57, .tmp 58]) [2, 0] rfl (by kernel_rfl) (by kernel_rfl) (fun _ q hq => by cases hq) (fun w hS => box_Same.con K x2_1 ([(⟨1, 5⟩ : S40), (⟨0, 9⟩ : S40), (⟨1, 2⟩ : S40)] : List S40) p2_1 ((some ⟨p1_3, 0, none⟩, 3) : Hd)  _ _ w hS hx5_36)) (by kernel_rfl) (fun _ => ?_)
                  refine O.q (v := .bool true) (some 60) (Qu.eqv (u := .bool x5_36) (v := .bool true) (0, 0) [] (by kernel_rfl) (congrArg Value.bool hc8)) (by kernel_rfl) ?_
                  refine O.pure 3 [] [61, 62, 63] [] (fr' := [(61, .bool true), (62, .slice ((some ⟨p1_3, 0, none⟩, 3) : Hd).1 ([(⟨1, 5⟩ : S40), (⟨0, 9⟩ : S40), (⟨1, 2⟩ : S40)] : List S40).length ((some ⟨p1_3, 0, none⟩, 3) : Hd).2), (63, .slice ((some ⟨p1_3, 0, none⟩, 3) : Hd).1 ([(⟨1, 5⟩ : S40), (⟨0, 9⟩ : S40), (⟨1, 2⟩ : S40)] : List S40).length ((some ⟨p1_3, 0, none⟩, 3) : Hd).2)]) (bx' := []) (by kernel_rfl) ?_
                  refine O.e (some 64) (Ev.mono (fun w hS => hS.freezeH (h := ((some ⟨p1_3, 0, none⟩, 3) : Hd)) (xs := ([(⟨1, 5⟩ : S40), (⟨0, 9⟩ : S40), (⟨1, 2⟩ : S40)] : List S40))) (Ev.lit (t := 27) (len := 2) (parts := #[(0, .tmp 62), (1, .tmp 63)]) (ps := [(0, .slice ((some ⟨p1_3, 0, none⟩, 3) : Hd).1 ([(⟨1, 5⟩ : S40), (⟨0, 9⟩ : S40), (⟨1, 2⟩ : S40)] : List S40).length ((some ⟨p1_3, 0, none⟩, 3) : Hd).2), (1, .slice ((some ⟨p1_3, 0, none⟩, 3) : Hd).1 ([(⟨1, 5⟩ : S40), (⟨0, 9⟩ : S40), (⟨1, 2⟩ : S40)] : List S40).length ((some ⟨p1_3, 0, none⟩, 3) : Hd).2)]) (cs := [.slice ((some ⟨p1_3, 0, none⟩, 3) : Hd).1 ([(⟨1, 5⟩ : S40), (⟨0, 9⟩ : S40), (⟨1, 2⟩ : S40)] : List S40).length ((some ⟨p1_3, 0, none⟩, 3) : Hd).2, .slice ((some ⟨p1_3, 0, none⟩, 3) : Hd).1 ([(⟨1, 5⟩ : S40), (⟨0, 9⟩ : S40), (⟨1, 2⟩ : S40)] : List S40).length ((some ⟨p1_3, 0, none⟩, 3) : Hd).2]) (e := 22) (Kd.slice kd40) ([([(⟨1, 5⟩ : S40), (⟨0, 9⟩ : S40), (⟨1, 2⟩ : S40)] : List S40), ([(⟨1, 5⟩ : S40), (⟨0, 9⟩ : S40), (⟨1, 2⟩ : S40)] : List S40)] : List (List S40)) (by kernel_rfl) (by kernel_rfl) (by kernel_rfl) (by kernel_rfl) (by kernel_rfl) (by decide) (fun w' hφ => (Els.cons (c := [.slice ((some ⟨p1_3, 0, none⟩, 3) : Hd).1 ([(⟨1, 5⟩ : S40), (⟨0, 9⟩ : S40), (⟨1, 2⟩ : S40)] : List S40).length ((some ⟨p1_3, 0, none⟩, 3) : Hd).2]) (⟨((some ⟨p1_3, 0, none⟩, 3) : Hd).1, ((some ⟨p1_3, 0, none⟩, 3) : Hd).2, rfl, hφ _ (List.mem_of_getElem? (i := 0) rfl)⟩) (Els.cons (c := [.slice ((some ⟨p1_3, 0, none⟩, 3) : Hd).1 ([(⟨1, 5⟩ : S40), (⟨0, 9⟩ : S40), (⟨1, 2⟩ : S40)] : List S40).length ((some ⟨p1_3, 0, none⟩, 3) : Hd).2]) (⟨((some ⟨p1_3, 0, none⟩, 3) : Hd).1, ((some ⟨p1_3, 0, none⟩, 3) : Hd).2, rfl, hφ _ (List.mem_of_getElem? (i := 0) rfl)⟩) (Els.nil _ _ _)))))) (by kernel_rfl) (fun p5_41 => ?_)
                  refine O.e (some 65) (Ev.callL (hh := ((some ⟨p5_41, 0, none⟩, 2) : Hd)) (xs := ([([(⟨1, 5⟩ : S40), (⟨0, 9⟩ : S40), (⟨1, 2⟩ : S40)] : List S40), ([(⟨1, 5⟩ : S40), (⟨0, 9⟩ : S40), (⟨1, 2⟩ : S40)] : List S40)] : List (List S40))) (m := ([([(⟨1, 5⟩ : S40), (⟨0, 9⟩ : S40), (⟨1, 2⟩ : S40)] : List S40), ([(⟨1, 5⟩ : S40), (⟨0, 9⟩ : S40), (⟨1, 2⟩ : S40)] : List S40)] : List (List S40)).length) (xs1 := [.tmp 64]) [0] rfl (by kernel_rfl) (by kernel_rfl) (fun _ q hq _ _ _ h => by obtain rfl := List.mem_singleton.1 hq; exact h) (fun w hS => box_Join.con K ([([(⟨1, 5⟩ : S40), (⟨0, 9⟩ : S40), (⟨1, 2⟩ : S40)] : List S40), ([(⟨1, 5⟩ : S40), (⟨0, 9⟩ : S40), (⟨1, 2⟩ : S40)] : List S40)] : List (List S40)) ((some ⟨p5_41, 0, none⟩, 2) : Hd)  _ _ w hS hx5_42)) (by kernel_rfl) (fun p5_42 => ?_)
                  refine O.pure 4 [] [0] [] (fr' := [(0, .bool ((x5_42.length : Int) == 6))]) (bx' := []) (by kernel_rfl) ?_
                  refine O.nil (by kernel_rfl) ?_
                  obtain rfl := Option.some.inj H
                  exact J.doneS [] [] [] [] [] () (vs := [.bool ((x5_42.length : Int) == 6)]) (by kernel_rfl) (by kernel_rfl) (by kernel_rfl) (by kernel_rfl) (by kernel_rfl) (by decide)
                · refine J.region (by kernel_rfl) ?_
                  refine O.pure 2 [] [1, 2, 3, 4, 5, 6, 24] [] (fr' := [(1, .slice ((some ⟨p1_3, 0, none⟩, 3) : Hd).1 ([(⟨1, 5⟩ : S40), (⟨0, 9⟩ : S40), (⟨1, 2⟩ : S40)] : List S40).length ((some ⟨p1_3, 0, none⟩, 3) : Hd).2), (2, .slice p2_1.1 x2_1.length p2_1.2), (3, .slice p3_1.1 x3_1.1.length p3_1.2), (4, .int .i64 x3_1.2), (5, .int .i64 x4_1.1), (6, .bool x4_1.2), (24, .int .i64 (x2_1.length : Int))]) (bx' := []) (by kernel_rfl) ?_
                  refine O.q (v := .bool true) (some 25) (Qu.eqv (u := .bool ((x2_1.length : Int) == 3)) (v := .bool true) (0, 0) [] (by kernel_rfl) (congrArg Value.bool hc1)) (by kernel_rfl) ?_
                  refine O.pure 2 [] [1, 2, 3, 4, 5, 6, 26, 27] [] (fr' := [(1, .slice ((some ⟨p1_3, 0, none⟩, 3) : Hd).1 ([(⟨1, 5⟩ : S40), (⟨0, 9⟩ : S40), (⟨1, 2⟩ : S40)] : List S40).length ((some ⟨p1_3, 0, none⟩, 3) : Hd).2), (2, .slice p2_1.1 x2_1.length p2_1.2), (3, .slice p3_1.1 x3_1.1.length p3_1.2), (4, .int .i64 x3_1.2), (5, .int .i64 x4_1.1), (6, .bool x4_1.2), (26, .bool true), (27, .slice p2_1.1 x2_1.length p2_1.2)]) (bx' := []) (by kernel_rfl) ?_
                  refine O.mono (fun w hS => hS.rowsel [2, 0, 1] rfl (by decide)) ?_
                  refine O.mono (fun w hS => hS.freezeH (h := p2_1) (xs := x2_1)) ?_
                  refine O.open (d := kd40) (h := p2_1) (i := 1) 0 rfl hx5_5 (op40 _) (fun p5_5 hp5_5A => ?_)
                  refine O.q (v := .pointer (some ⟨p5_5.1, p5_5.2.1 + (1 : Int).toNat * 2, none⟩)) (some 28) (Qu.idx (t := 22) (x := .tmp 27) (y := .const (.int .i64 1)) (c := p2_1.2) (kk := .i64) (sz := 2) (by kernel_rfl) (by kernel_rfl) (by kernel_rfl) (by kernel_rfl) hx5_5a (idx_lt hx5_5) hp5_5A) (by kernel_rfl) ?_
                  refine O.pure 2 [(0, 0)] [1, 2, 3, 4, 5, 6, 26, 29, 30] [p5_5.1, p5_5.2.1 + (1 : Int).toNat * 2] (fr' := [(1, .slice ((some ⟨p1_3, 0, none⟩, 3) : Hd).1 ([(⟨1, 5⟩ : S40), (⟨0, 9⟩ : S40), (⟨1, 2⟩ : S40)] : List S40).length ((some ⟨p1_3, 0, none⟩, 3) : Hd).2), (2, .slice p2_1.1 x2_1.length p2_1.2), (3, .slice p3_1.1 x3_1.1.length p3_1.2), (4, .int .i64 x3_1.2), (5, .int .i64 x4_1.1), (6, .bool x4_1.2), (26, .bool true), (29, .agg #[.int .i64 x5_5.f0, .int .i64 x5_5.f1]), (30, .agg #[.int .i64 1, .int .i64 2])]) (bx' := []) (by kernel_rfl) ?_
                  refine O.q (v := .bool true) (some 31) (Qu.as (congrArg Value.bool hc2) (Qu.binT (op := .eql) (t := 40) (t' := 40) (x := .tmp 29) (y := .tmp 30) (u := .agg #[.int .i64 x5_5.f0, .int .i64 x5_5.f1]) (v := .agg #[.int .i64 1, .int .i64 2]) (by kernel_rfl) (by kernel_rfl) (by kernel_rfl) (by kernel_rfl))) (by kernel_rfl) ?_
                  refine O.pure 4 [] [1, 2, 3, 4, 5, 6, 33, 35] [] (fr' := [(1, .slice ((some ⟨p1_3, 0, none⟩, 3) : Hd).1 ([(⟨1, 5⟩ : S40), (⟨0, 9⟩ : S40), (⟨1, 2⟩ : S40)] : List S40).length ((some ⟨p1_3, 0, none⟩, 3) : Hd).2), (2, .slice p2_1.1 x2_1.length p2_1.2), (3, .slice p3_1.1 x3_1.1.length p3_1.2), (4, .int .i64 x3_1.2), (5, .int .i64 x4_1.1), (6, .bool x4_1.2), (33, .bool true), (35, .int .i64 (x3_1.1.length : Int))]) (bx' := []) (by kernel_rfl) ?_
                  refine O.q (v := .bool true) (some 36) (Qu.eqv (u := .bool ((x3_1.1.length : Int) == 2)) (v := .bool true) (0, 0) [] (by kernel_rfl) (congrArg Value.bool hc3)) (by kernel_rfl) ?_
                  refine O.pure 3 [] [1, 2, 4, 5, 6, 38, 39] [] (fr' := [(1, .slice ((some ⟨p1_3, 0, none⟩, 3) : Hd).1 ([(⟨1, 5⟩ : S40), (⟨0, 9⟩ : S40), (⟨1, 2⟩ : S40)] : List S40).length ((some ⟨p1_3, 0, none⟩, 3) : Hd).2), (2, .slice p2_1.1 x2_1.length p2_1.2), (4, .int .i64 x3_1.2), (5, .int .i64 x4_1.1), (6, .bool x4_1.2), (38, .bool true), (39, .slice p3_1.1 x3_1.1.length p3_1.2)]) (bx' := []) (by kernel_rfl) ?_
                  refine O.mono (fun w hS => hS.rowsel [1, 0] rfl (by decide)) ?_
                  refine O.mono (fun w hS => hS.freezeH (h := p3_1) (xs := x3_1.1)) ?_
                  refine O.open (d := kd40) (h := p3_1) (i := 1) 0 rfl hx5_17 (op40 _) (fun p5_17 hp5_17A => ?_)
                  refine O.q (v := .pointer (some ⟨p5_17.1, p5_17.2.1 + (1 : Int).toNat * 2, none⟩)) (some 40) (Qu.idx (t := 22) (x := .tmp 39) (y := .const (.int .i64 1)) (c := p3_1.2) (kk := .i64) (sz := 2) (by kernel_rfl) (by kernel_rfl) (by kernel_rfl) (by kernel_rfl) hx5_17a (idx_lt hx5_17) hp5_17A) (by kernel_rfl) ?_
                  refine O.pure 2 [(0, 1)] [1, 2, 4, 5, 6, 38, 42] [p5_17.1, p5_17.2.1 + (1 : Int).toNat * 2 + 1] (fr' := [(1, .slice ((some ⟨p1_3, 0, none⟩, 3) : Hd).1 ([(⟨1, 5⟩ : S40), (⟨0, 9⟩ : S40), (⟨1, 2⟩ : S40)] : List S40).length ((some ⟨p1_3, 0, none⟩, 3) : Hd).2), (2, .slice p2_1.1 x2_1.length p2_1.2), (4, .int .i64 x3_1.2), (5, .int .i64 x4_1.1), (6, .bool x4_1.2), (38, .bool true), (42, .int .i64 x5_17.f1)]) (bx' := []) (by kernel_rfl) ?_
                  refine O.q (v := .bool true) (some 43) (Qu.eqv (u := .bool (x5_17.f1 == 7)) (v := .bool true) (0, 0) [] (by kernel_rfl) (congrArg Value.bool hc4)) (by kernel_rfl) ?_
                  refine O.pure 3 [] [1, 2, 5, 6, 45, 46] [] (fr' := [(1, .slice ((some ⟨p1_3, 0, none⟩, 3) : Hd).1 ([(⟨1, 5⟩ : S40), (⟨0, 9⟩ : S40), (⟨1, 2⟩ : S40)] : List S40).length ((some ⟨p1_3, 0, none⟩, 3) : Hd).2), (2, .slice p2_1.1 x2_1.length p2_1.2), (5, .int .i64 x4_1.1), (6, .bool x4_1.2), (45, .bool true), (46, .int .i64 x3_1.2)]) (bx' := []) (by kernel_rfl) ?_
                  refine O.q (v := .bool true) (some 47) (Qu.eqv (u := .bool (x3_1.2 == 0)) (v := .bool true) (0, 0) [] (by kernel_rfl) (congrArg Value.bool hc5)) (by kernel_rfl) ?_
                  refine O.pure 3 [] [1, 2, 6, 49, 50] [] (fr' := [(1, .slice ((some ⟨p1_3, 0, none⟩, 3) : Hd).1 ([(⟨1, 5⟩ : S40), (⟨0, 9⟩ : S40), (⟨1, 2⟩ : S40)] : List S40).length ((some ⟨p1_3, 0, none⟩, 3) : Hd).2), (2, .slice p2_1.1 x2_1.length p2_1.2), (6, .bool x4_1.2), (49, .bool true), (50, .int .i64 x4_1.1)]) (bx' := []) (by kernel_rfl) ?_
                  refine O.q (v := .bool true) (some 51) (Qu.eqv (u := .bool (x4_1.1 == 5)) (v := .bool true) (0, 0) [] (by kernel_rfl) (congrArg Value.bool hc6)) (by kernel_rfl) ?_
                  refine O.pure 2 [] [1, 2, 6, 53] [] (fr' := [(1, .slice ((some ⟨p1_3, 0, none⟩, 3) : Hd).1 ([(⟨1, 5⟩ : S40), (⟨0, 9⟩ : S40), (⟨1, 2⟩ : S40)] : List S40).length ((some ⟨p1_3, 0, none⟩, 3) : Hd).2), (2, .slice p2_1.1 x2_1.length p2_1.2), (6, .bool x4_1.2), (53, .bool true)]) (bx' := []) (by kernel_rfl) ?_
                  refine O.q (v := .bool true) (some 54) (Qu.eqv (u := .bool x4_1.2) (v := .bool true) (0, 0) [] (by kernel_rfl) (congrArg Value.bool hc7)) (by kernel_rfl) ?_
                  refine O.pure 4 [] [1, 56, 57, 58] [] (fr' := [(1, .slice ((some ⟨p1_3, 0, none⟩, 3) : Hd).1 ([(⟨1, 5⟩ : S40), (⟨0, 9⟩ : S40), (⟨1, 2⟩ : S40)] : List S40).length ((some ⟨p1_3, 0, none⟩, 3) : Hd).2), (56, .bool true), (57, .slice p2_1.1 x2_1.length p2_1.2), (58, .slice ((some ⟨p1_3, 0, none⟩, 3) : Hd).1 ([(⟨1, 5⟩ : S40), (⟨0, 9⟩ : S40), (⟨1, 2⟩ : S40)] : List S40).length ((some ⟨p1_3, 0, none⟩, 3) : Hd).2)]) (bx' := []) (by kernel_rfl) ?_
                  refine O.e (some 59) (Ev.callL (hh := ((some ⟨p1_3, 0, none⟩, 3) : Hd)) (xs := ([(⟨1, 5⟩ : S40), (⟨0, 9⟩ : S40), (⟨1, 2⟩ : S40)] : List S40)) (m := ([(⟨1, 5⟩ : S40), (⟨0, 9⟩ : S40), (⟨1, 2⟩ : S40)] : List S40).length) (xs1 := [.tmp 57, .tmp 58]) [2, 0] rfl (by kernel_rfl) (by kernel_rfl) (fun _ q hq => by cases hq) (fun w hS => box_Same.con K x2_1 ([(⟨1, 5⟩ : S40), (⟨0, 9⟩ : S40), (⟨1, 2⟩ : S40)] : List S40) p2_1 ((some ⟨p1_3, 0, none⟩, 3) : Hd)  _ _ w hS hx5_36)) (by kernel_rfl) (fun _ => ?_)
                  refine O.q (v := .bool false) (some 60) (Qu.eqv (u := .bool x5_36) (v := .bool false) (0, 0) [] (by kernel_rfl) (congrArg Value.bool hc8)) (by kernel_rfl) ?_
                  refine O.pure 9 [] [0] [] (fr' := [(0, .bool false)]) (bx' := []) (by kernel_rfl) ?_
                  refine O.nil (by kernel_rfl) ?_
                  obtain rfl := Option.some.inj H
                  exact J.doneS [] [] [] [] [] () (vs := [.bool false]) (by kernel_rfl) (by kernel_rfl) (by kernel_rfl) (by kernel_rfl) (by kernel_rfl) (by decide)
              · refine J.region (by kernel_rfl) ?_
                refine O.pure 2 [] [1, 2, 3, 4, 5, 6, 24] [] (fr' := [(1, .slice ((some ⟨p1_3, 0, none⟩, 3) : Hd).1 ([(⟨1, 5⟩ : S40), (⟨0, 9⟩ : S40), (⟨1, 2⟩ : S40)] : List S40).length ((some ⟨p1_3, 0, none⟩, 3) : Hd).2), (2, .slice p2_1.1 x2_1.length p2_1.2), (3, .slice p3_1.1 x3_1.1.length p3_1.2), (4, .int .i64 x3_1.2), (5, .int .i64 x4_1.1), (6, .bool x4_1.2), (24, .int .i64 (x2_1.length : Int))]) (bx' := []) (by kernel_rfl) ?_
                refine O.q (v := .bool true) (some 25) (Qu.eqv (u := .bool ((x2_1.length : Int) == 3)) (v := .bool true) (0, 0) [] (by kernel_rfl) (congrArg Value.bool hc1)) (by kernel_rfl) ?_
                refine O.pure 2 [] [1, 2, 3, 4, 5, 6, 26, 27] [] (fr' := [(1, .slice ((some ⟨p1_3, 0, none⟩, 3) : Hd).1 ([(⟨1, 5⟩ : S40), (⟨0, 9⟩ : S40), (⟨1, 2⟩ : S40)] : List S40).length ((some ⟨p1_3, 0, none⟩, 3) : Hd).2), (2, .slice p2_1.1 x2_1.length p2_1.2), (3, .slice p3_1.1 x3_1.1.length p3_1.2), (4, .int .i64 x3_1.2), (5, .int .i64 x4_1.1), (6, .bool x4_1.2), (26, .bool true), (27, .slice p2_1.1 x2_1.length p2_1.2)]) (bx' := []) (by kernel_rfl) ?_
                refine O.mono (fun w hS => hS.rowsel [2, 0, 1] rfl (by decide)) ?_
                refine O.mono (fun w hS => hS.freezeH (h := p2_1) (xs := x2_1)) ?_
                refine O.open (d := kd40) (h := p2_1) (i := 1) 0 rfl hx5_5 (op40 _) (fun p5_5 hp5_5A => ?_)
                refine O.q (v := .pointer (some ⟨p5_5.1, p5_5.2.1 + (1 : Int).toNat * 2, none⟩)) (some 28) (Qu.idx (t := 22) (x := .tmp 27) (y := .const (.int .i64 1)) (c := p2_1.2) (kk := .i64) (sz := 2) (by kernel_rfl) (by kernel_rfl) (by kernel_rfl) (by kernel_rfl) hx5_5a (idx_lt hx5_5) hp5_5A) (by kernel_rfl) ?_
                refine O.pure 2 [(0, 0)] [1, 2, 3, 4, 5, 6, 26, 29, 30] [p5_5.1, p5_5.2.1 + (1 : Int).toNat * 2] (fr' := [(1, .slice ((some ⟨p1_3, 0, none⟩, 3) : Hd).1 ([(⟨1, 5⟩ : S40), (⟨0, 9⟩ : S40), (⟨1, 2⟩ : S40)] : List S40).length ((some ⟨p1_3, 0, none⟩, 3) : Hd).2), (2, .slice p2_1.1 x2_1.length p2_1.2), (3, .slice p3_1.1 x3_1.1.length p3_1.2), (4, .int .i64 x3_1.2), (5, .int .i64 x4_1.1), (6, .bool x4_1.2), (26, .bool true), (29, .agg #[.int .i64 x5_5.f0, .int .i64 x5_5.f1]), (30, .agg #[.int .i64 1, .int .i64 2])]) (bx' := []) (by kernel_rfl) ?_
                refine O.q (v := .bool true) (some 31) (Qu.as (congrArg Value.bool hc2) (Qu.binT (op := .eql) (t := 40) (t' := 40) (x := .tmp 29) (y := .tmp 30) (u := .agg #[.int .i64 x5_5.f0, .int .i64 x5_5.f1]) (v := .agg #[.int .i64 1, .int .i64 2]) (by kernel_rfl) (by kernel_rfl) (by kernel_rfl) (by kernel_rfl))) (by kernel_rfl) ?_
                refine O.pure 4 [] [1, 2, 3, 4, 5, 6, 33, 35] [] (fr' := [(1, .slice ((some ⟨p1_3, 0, none⟩, 3) : Hd).1 ([(⟨1, 5⟩ : S40), (⟨0, 9⟩ : S40), (⟨1, 2⟩ : S40)] : List S40).length ((some ⟨p1_3, 0, none⟩, 3) : Hd).2), (2, .slice p2_1.1 x2_1.length p2_1.2), (3, .slice p3_1.1 x3_1.1.length p3_1.2), (4, .int .i64 x3_1.2), (5, .int .i64 x4_1.1), (6, .bool x4_1.2), (33, .bool true), (35, .int .i64 (x3_1.1.length : Int))]) (bx' := []) (by kernel_rfl) ?_
                refine O.q (v := .bool true) (some 36) (Qu.eqv (u := .bool ((x3_1.1.length : Int) == 2)) (v := .bool true) (0, 0) [] (by kernel_rfl) (congrArg Value.bool hc3)) (by kernel_rfl) ?_
                refine O.pure 3 [] [1, 2, 4, 5, 6, 38, 39] [] (fr' := [(1, .slice ((some ⟨p1_3, 0, none⟩, 3) : Hd).1 ([(⟨1, 5⟩ : S40), (⟨0, 9⟩ : S40), (⟨1, 2⟩ : S40)] : List S40).length ((some ⟨p1_3, 0, none⟩, 3) : Hd).2), (2, .slice p2_1.1 x2_1.length p2_1.2), (4, .int .i64 x3_1.2), (5, .int .i64 x4_1.1), (6, .bool x4_1.2), (38, .bool true), (39, .slice p3_1.1 x3_1.1.length p3_1.2)]) (bx' := []) (by kernel_rfl) ?_
                refine O.mono (fun w hS => hS.rowsel [1, 0] rfl (by decide)) ?_
                refine O.mono (fun w hS => hS.freezeH (h := p3_1) (xs := x3_1.1)) ?_
                refine O.open (d := kd40) (h := p3_1) (i := 1) 0 rfl hx5_17 (op40 _) (fun p5_17 hp5_17A => ?_)
                refine O.q (v := .pointer (some ⟨p5_17.1, p5_17.2.1 + (1 : Int).toNat * 2, none⟩)) (some 40) (Qu.idx (t := 22) (x := .tmp 39) (y := .const (.int .i64 1)) (c := p3_1.2) (kk := .i64) (sz := 2) (by kernel_rfl) (by kernel_rfl) (by kernel_rfl) (by kernel_rfl) hx5_17a (idx_lt hx5_17) hp5_17A) (by kernel_rfl) ?_
                refine O.pure 2 [(0, 1)] [1, 2, 4, 5, 6, 38, 42] [p5_17.1, p5_17.2.1 + (1 : Int).toNat * 2 + 1] (fr' := [(1, .slice ((some ⟨p1_3, 0, none⟩, 3) : Hd).1 ([(⟨1, 5⟩ : S40), (⟨0, 9⟩ : S40), (⟨1, 2⟩ : S40)] : List S40).length ((some ⟨p1_3, 0, none⟩, 3) : Hd).2), (2, .slice p2_1.1 x2_1.length p2_1.2), (4, .int .i64 x3_1.2), (5, .int .i64 x4_1.1), (6, .bool x4_1.2), (38, .bool true), (42, .int .i64 x5_17.f1)]) (bx' := []) (by kernel_rfl) ?_
                refine O.q (v := .bool true) (some 43) (Qu.eqv (u := .bool (x5_17.f1 == 7)) (v := .bool true) (0, 0) [] (by kernel_rfl) (congrArg Value.bool hc4)) (by kernel_rfl) ?_
                refine O.pure 3 [] [1, 2, 5, 6, 45, 46] [] (fr' := [(1, .slice ((some ⟨p1_3, 0, none⟩, 3) : Hd).1 ([(⟨1, 5⟩ : S40), (⟨0, 9⟩ : S40), (⟨1, 2⟩ : S40)] : List S40).length ((some ⟨p1_3, 0, none⟩, 3) : Hd).2), (2, .slice p2_1.1 x2_1.length p2_1.2), (5, .int .i64 x4_1.1), (6, .bool x4_1.2), (45, .bool true), (46, .int .i64 x3_1.2)]) (bx' := []) (by kernel_rfl) ?_
                refine O.q (v := .bool true) (some 47) (Qu.eqv (u := .bool (x3_1.2 == 0)) (v := .bool true) (0, 0) [] (by kernel_rfl) (congrArg Value.bool hc5)) (by kernel_rfl) ?_
                refine O.pure 3 [] [1, 2, 6, 49, 50] [] (fr' := [(1, .slice ((some ⟨p1_3, 0, none⟩, 3) : Hd).1 ([(⟨1, 5⟩ : S40), (⟨0, 9⟩ : S40), (⟨1, 2⟩ : S40)] : List S40).length ((some ⟨p1_3, 0, none⟩, 3) : Hd).2), (2, .slice p2_1.1 x2_1.length p2_1.2), (6, .bool x4_1.2), (49, .bool true), (50, .int .i64 x4_1.1)]) (bx' := []) (by kernel_rfl) ?_
                refine O.q (v := .bool true) (some 51) (Qu.eqv (u := .bool (x4_1.1 == 5)) (v := .bool true) (0, 0) [] (by kernel_rfl) (congrArg Value.bool hc6)) (by kernel_rfl) ?_
                refine O.pure 2 [] [1, 2, 6, 53] [] (fr' := [(1, .slice ((some ⟨p1_3, 0, none⟩, 3) : Hd).1 ([(⟨1, 5⟩ : S40), (⟨0, 9⟩ : S40), (⟨1, 2⟩ : S40)] : List S40).length ((some ⟨p1_3, 0, none⟩, 3) : Hd).2), (2, .slice p2_1.1 x2_1.length p2_1.2), (6, .bool x4_1.2), (53, .bool true)]) (bx' := []) (by kernel_rfl) ?_
                refine O.q (v := .bool false) (some 54) (Qu.eqv (u := .bool x4_1.2) (v := .bool false) (0, 0) [] (by kernel_rfl) (congrArg Value.bool hc7)) (by kernel_rfl) ?_
                refine O.pure 15 [] [0] [] (fr' := [(0, .bool false)]) (bx' := []) (by kernel_rfl) ?_
                refine O.nil (by kernel_rfl) ?_
                obtain rfl := Option.some.inj H
                exact J.doneS [] [] [] [] [] () (vs := [.bool false]) (by kernel_rfl) (by kernel_rfl) (by kernel_rfl) (by kernel_rfl) (by kernel_rfl) (by decide)
            · refine J.region (by kernel_rfl) ?_
              refine O.pure 2 [] [1, 2, 3, 4, 5, 6, 24] [] (fr' := [(1, .slice ((some ⟨p1_3, 0, none⟩, 3) : Hd).1 ([(⟨1, 5⟩ : S40), (⟨0, 9⟩ : S40), (⟨1, 2⟩ : S40)] : List S40).length ((some ⟨p1_3, 0, none⟩, 3) : Hd).2), (2, .slice p2_1.1 x2_1.length p2_1.2), (3, .slice p3_1.1 x3_1.1.length p3_1.2), (4, .int .i64 x3_1.2), (5, .int .i64 x4_1.1), (6, .bool x4_1.2), (24, .int .i64 (x2_1.length : Int))]) (bx' := []) (by kernel_rfl) ?_
              refine O.q (v := .bool true) (some 25) (Qu.eqv (u := .bool ((x2_1.length : Int) == 3)) (v := .bool true) (0, 0) [] (by kernel_rfl) (congrArg Value.bool hc1)) (by kernel_rfl) ?_
              refine O.pure 2 [] [1, 2, 3, 4, 5, 6, 26, 27] [] (fr' := [(1, .slice ((some ⟨p1_3, 0, none⟩, 3) : Hd).1 ([(⟨1, 5⟩ : S40), (⟨0, 9⟩ : S40), (⟨1, 2⟩ : S40)] : List S40).length ((some ⟨p1_3, 0, none⟩, 3) : Hd).2), (2, .slice p2_1.1 x2_1.length p2_1.2), (3, .slice p3_1.1 x3_1.1.length p3_1.2), (4, .int .i64 x3_1.2), (5, .int .i64 x4_1.1), (6, .bool x4_1.2), (26, .bool true), (27, .slice p2_1.1 x2_1.length p2_1.2)]) (bx' := []) (by kernel_rfl) ?_
              refine O.mono (fun w hS => hS.rowsel [2, 0, 1] rfl (by decide)) ?_
              refine O.mono (fun w hS => hS.freezeH (h := p2_1) (xs := x2_1)) ?_
              refine O.open (d := kd40) (h := p2_1) (i := 1) 0 rfl hx5_5 (op40 _) (fun p5_5 hp5_5A => ?_)
              refine O.q (v := .pointer (some ⟨p5_5.1, p5_5.2.1 + (1 : Int).toNat * 2, none⟩)) (some 28) (Qu.idx (t := 22) (x := .tmp 27) (y := .const (.int .i64 1)) (c := p2_1.2) (kk := .i64) (sz := 2) (by kernel_rfl) (by kernel_rfl) (by kernel_rfl) (by kernel_rfl) hx5_5a (idx_lt hx5_5) hp5_5A) (by kernel_rfl) ?_
              refine O.pure 2 [(0, 0)] [1, 2, 3, 4, 5, 6, 26, 29, 30] [p5_5.1, p5_5.2.1 + (1 : Int).toNat * 2] (fr' := [(1, .slice ((some ⟨p1_3, 0, none⟩, 3) : Hd).1 ([(⟨1, 5⟩ : S40), (⟨0, 9⟩ : S40), (⟨1, 2⟩ : S40)] : List S40).length ((some ⟨p1_3, 0, none⟩, 3) : Hd).2), (2, .slice p2_1.1 x2_1.length p2_1.2), (3, .slice p3_1.1 x3_1.1.length p3_1.2), (4, .int .i64 x3_1.2), (5, .int .i64 x4_1.1), (6, .bool x4_1.2), (26, .bool true), (29, .agg #[.int .i64 x5_5.f0, .int .i64 x5_5.f1]), (30, .agg #[.int .i64 1, .int .i64 2])]) (bx' := []) (by kernel_rfl) ?_
              refine O.q (v := .bool true) (some 31) (Qu.as (congrArg Value.bool hc2) (Qu.binT (op := .eql) (t := 40) (t' := 40) (x := .tmp 29) (y := .tmp 30) (u := .agg #[.int .i64 x5_5.f0, .int .i64 x5_5.f1]) (v := .agg #[.int .i64 1, .int .i64 2]) (by kernel_rfl) (by kernel_rfl) (by kernel_rfl) (by kernel_rfl))) (by kernel_rfl) ?_
              refine O.pure 4 [] [1, 2, 3, 4, 5, 6, 33, 35] [] (fr' := [(1, .slice ((some ⟨p1_3, 0, none⟩, 3) : Hd).1 ([(⟨1, 5⟩ : S40), (⟨0, 9⟩ : S40), (⟨1, 2⟩ : S40)] : List S40).length ((some ⟨p1_3, 0, none⟩, 3) : Hd).2), (2, .slice p2_1.1 x2_1.length p2_1.2), (3, .slice p3_1.1 x3_1.1.length p3_1.2), (4, .int .i64 x3_1.2), (5, .int .i64 x4_1.1), (6, .bool x4_1.2), (33, .bool true), (35, .int .i64 (x3_1.1.length : Int))]) (bx' := []) (by kernel_rfl) ?_
              refine O.q (v := .bool true) (some 36) (Qu.eqv (u := .bool ((x3_1.1.length : Int) == 2)) (v := .bool true) (0, 0) [] (by kernel_rfl) (congrArg Value.bool hc3)) (by kernel_rfl) ?_
              refine O.pure 3 [] [1, 2, 4, 5, 6, 38, 39] [] (fr' := [(1, .slice ((some ⟨p1_3, 0, none⟩, 3) : Hd).1 ([(⟨1, 5⟩ : S40), (⟨0, 9⟩ : S40), (⟨1, 2⟩ : S40)] : List S40).length ((some ⟨p1_3, 0, none⟩, 3) : Hd).2), (2, .slice p2_1.1 x2_1.length p2_1.2), (4, .int .i64 x3_1.2), (5, .int .i64 x4_1.1), (6, .bool x4_1.2), (38, .bool true), (39, .slice p3_1.1 x3_1.1.length p3_1.2)]) (bx' := []) (by kernel_rfl) ?_
              refine O.mono (fun w hS => hS.rowsel [1, 0] rfl (by decide)) ?_
              refine O.mono (fun w hS => hS.freezeH (h := p3_1) (xs := x3_1.1)) ?_
              refine O.open (d := kd40) (h := p3_1) (i := 1) 0 rfl hx5_17 (op40 _) (fun p5_17 hp5_17A => ?_)
              refine O.q (v := .pointer (some ⟨p5_17.1, p5_17.2.1 + (1 : Int).toNat * 2, none⟩)) (some 40) (Qu.idx (t := 22) (x := .tmp 39) (y := .const (.int .i64 1)) (c := p3_1.2) (kk := .i64) (sz := 2) (by kernel_rfl) (by kernel_rfl) (by kernel_rfl) (by kernel_rfl) hx5_17a (idx_lt hx5_17) hp5_17A) (by kernel_rfl) ?_
              refine O.pure 2 [(0, 1)] [1, 2, 4, 5, 6, 38, 42] [p5_17.1, p5_17.2.1 + (1 : Int).toNat * 2 + 1] (fr' := [(1, .slice ((some ⟨p1_3, 0, none⟩, 3) : Hd).1 ([(⟨1, 5⟩ : S40), (⟨0, 9⟩ : S40), (⟨1, 2⟩ : S40)] : List S40).length ((some ⟨p1_3, 0, none⟩, 3) : Hd).2), (2, .slice p2_1.1 x2_1.length p2_1.2), (4, .int .i64 x3_1.2), (5, .int .i64 x4_1.1), (6, .bool x4_1.2), (38, .bool true), (42, .int .i64 x5_17.f1)]) (bx' := []) (by kernel_rfl) ?_
              refine O.q (v := .bool true) (some 43) (Qu.eqv (u := .bool (x5_17.f1 == 7)) (v := .bool true) (0, 0) [] (by kernel_rfl) (congrArg Value.bool hc4)) (by kernel_rfl) ?_
              refine O.pure 3 [] [1, 2, 5, 6, 45, 46] [] (fr' := [(1, .slice ((some ⟨p1_3, 0, none⟩, 3) : Hd).1 ([(⟨1, 5⟩ : S40), (⟨0, 9⟩ : S40), (⟨1, 2⟩ : S40)] : List S40).length ((some ⟨p1_3, 0, none⟩, 3) : Hd).2), (2, .slice p2_1.1 x2_1.length p2_1.2), (5, .int .i64 x4_1.1), (6, .bool x4_1.2), (45, .bool true), (46, .int .i64 x3_1.2)]) (bx' := []) (by kernel_rfl) ?_
              refine O.q (v := .bool true) (some 47) (Qu.eqv (u := .bool (x3_1.2 == 0)) (v := .bool true) (0, 0) [] (by kernel_rfl) (congrArg Value.bool hc5)) (by kernel_rfl) ?_
              refine O.pure 3 [] [1, 2, 6, 49, 50] [] (fr' := [(1, .slice ((some ⟨p1_3, 0, none⟩, 3) : Hd).1 ([(⟨1, 5⟩ : S40), (⟨0, 9⟩ : S40), (⟨1, 2⟩ : S40)] : List S40).length ((some ⟨p1_3, 0, none⟩, 3) : Hd).2), (2, .slice p2_1.1 x2_1.length p2_1.2), (6, .bool x4_1.2), (49, .bool true), (50, .int .i64 x4_1.1)]) (bx' := []) (by kernel_rfl) ?_
              refine O.q (v := .bool false) (some 51) (Qu.eqv (u := .bool (x4_1.1 == 5)) (v := .bool false) (0, 0) [] (by kernel_rfl) (congrArg Value.bool hc6)) (by kernel_rfl) ?_
              refine O.pure 18 [] [0] [] (fr' := [(0, .bool false)]) (bx' := []) (by kernel_rfl) ?_
              refine O.nil (by kernel_rfl) ?_
              obtain rfl := Option.some.inj H
              exact J.doneS [] [] [] [] [] () (vs := [.bool false]) (by kernel_rfl) (by kernel_rfl) (by kernel_rfl) (by kernel_rfl) (by kernel_rfl) (by decide)
          · refine J.region (by kernel_rfl) ?_
            refine O.pure 2 [] [1, 2, 3, 4, 5, 6, 24] [] (fr' := [(1, .slice ((some ⟨p1_3, 0, none⟩, 3) : Hd).1 ([(⟨1, 5⟩ : S40), (⟨0, 9⟩ : S40), (⟨1, 2⟩ : S40)] : List S40).length ((some ⟨p1_3, 0, none⟩, 3) : Hd).2), (2, .slice p2_1.1 x2_1.length p2_1.2), (3, .slice p3_1.1 x3_1.1.length p3_1.2), (4, .int .i64 x3_1.2), (5, .int .i64 x4_1.1), (6, .bool x4_1.2), (24, .int .i64 (x2_1.length : Int))]) (bx' := []) (by kernel_rfl) ?_
            refine O.q (v := .bool true) (some 25) (Qu.eqv (u := .bool ((x2_1.length : Int) == 3)) (v := .bool true) (0, 0) [] (by kernel_rfl) (congrArg Value.bool hc1)) (by kernel_rfl) ?_
            refine O.pure 2 [] [1, 2, 3, 4, 5, 6, 26, 27] [] (fr' := [(1, .slice ((some ⟨p1_3, 0, none⟩, 3) : Hd).1 ([(⟨1, 5⟩ : S40), (⟨0, 9⟩ : S40), (⟨1, 2⟩ : S40)] : List S40).length ((some ⟨p1_3, 0, none⟩, 3) : Hd).2), (2, .slice p2_1.1 x2_1.length p2_1.2), (3, .slice p3_1.1 x3_1.1.length p3_1.2), (4, .int .i64 x3_1.2), (5, .int .i64 x4_1.1), (6, .bool x4_1.2), (26, .bool true), (27, .slice p2_1.1 x2_1.length p2_1.2)]) (bx' := []) (by kernel_rfl) ?_
            refine O.mono (fun w hS => hS.rowsel [2, 0, 1] rfl (by decide)) ?_
            refine O.mono (fun w hS => hS.freezeH (h := p2_1) (xs := x2_1)) ?_
            refine O.open (d := kd40) (h := p2_1) (i := 1) 0 rfl hx5_5 (op40 _) (fun p5_5 hp5_5A => ?_)
            refine O.q (v := .pointer (some ⟨p5_5.1, p5_5.2.1 + (1 : Int).toNat * 2, none⟩)) (some 28) (Qu.idx (t := 22) (x := .tmp 27) (y := .const (.int .i64 1)) (c := p2_1.2) (kk := .i64) (sz := 2) (by kernel_rfl) (by kernel_rfl) (by kernel_rfl) (by kernel_rfl) hx5_5a (idx_lt hx5_5) hp5_5A) (by kernel_rfl) ?_
            refine O.pure 2 [(0, 0)] [1, 2, 3, 4, 5, 6, 26, 29, 30] [p5_5.1, p5_5.2.1 + (1 : Int).toNat * 2] (fr' := [(1, .slice ((some ⟨p1_3, 0, none⟩, 3) : Hd).1 ([(⟨1, 5⟩ : S40), (⟨0, 9⟩ : S40), (⟨1, 2⟩ : S40)] : List S40).length ((some ⟨p1_3, 0, none⟩, 3) : Hd).2), (2, .slice p2_1.1 x2_1.length p2_1.2), (3, .slice p3_1.1 x3_1.1.length p3_1.2), (4, .int .i64 x3_1.2), (5, .int .i64 x4_1.1), (6, .bool x4_1.2), (26, .bool true), (29, .agg #[.int .i64 x5_5.f0, .int .i64 x5_5.f1]), (30, .agg #[.int .i64 1, .int .i64 2])]) (bx' := []) (by kernel_rfl) ?_
            refine O.q (v := .bool true) (some 31) (Qu.as (congrArg Value.bool hc2) (Qu.binT (op := .eql) (t := 40) (t' := 40) (x := .tmp 29) (y := .tmp 30) (u := .agg #[.int .i64 x5_5.f0, .int .i64 x5_5.f1]) (v := .agg #[.int .i64 1, .int .i64 2]) (by kernel_rfl) (by kernel_rfl) (by kernel_rfl) (by kernel_rfl))) (by kernel_rfl) ?_
            refine O.pure 4 [] [1, 2, 3, 4, 5, 6, 33, 35] [] (fr' := [(1, .slice ((some ⟨p1_3, 0, none⟩, 3) : Hd).1 ([(⟨1, 5⟩ : S40), (⟨0, 9⟩ : S40), (⟨1, 2⟩ : S40)] : List S40).length ((some ⟨p1_3, 0, none⟩, 3) : Hd).2), (2, .slice p2_1.1 x2_1.length p2_1.2), (3, .slice p3_1.1 x3_1.1.length p3_1.2), (4, .int .i64 x3_1.2), (5, .int .i64 x4_1.1), (6, .bool x4_1.2), (33, .bool true), (35, .int .i64 (x3_1.1.length : Int))]) (bx' := []) (by kernel_rfl) ?_
            refine O.q (v := .bool true) (some 36) (Qu.eqv (u := .bool ((x3_1.1.length : Int) == 2)) (v := .bool true) (0, 0) [] (by kernel_rfl) (congrArg Value.bool hc3)) (by kernel_rfl) ?_
            refine O.pure 3 [] [1, 2, 4, 5, 6, 38, 39] [] (fr' := [(1, .slice ((some ⟨p1_3, 0, none⟩, 3) : Hd).1 ([(⟨1, 5⟩ : S40), (⟨0, 9⟩ : S40), (⟨1, 2⟩ : S40)] : List S40).length ((some ⟨p1_3, 0, none⟩, 3) : Hd).2), (2, .slice p2_1.1 x2_1.length p2_1.2), (4, .int .i64 x3_1.2), (5, .int .i64 x4_1.1), (6, .bool x4_1.2), (38, .bool true), (39, .slice p3_1.1 x3_1.1.length p3_1.2)]) (bx' := []) (by kernel_rfl) ?_
            refine O.mono (fun w hS => hS.rowsel [1, 0] rfl (by decide)) ?_
            refine O.mono (fun w hS => hS.freezeH (h := p3_1) (xs := x3_1.1)) ?_
            refine O.open (d := kd40) (h := p3_1) (i := 1) 0 rfl hx5_17 (op40 _) (fun p5_17 hp5_17A => ?_)
            refine O.q (v := .pointer (some ⟨p5_17.1, p5_17.2.1 + (1 : Int).toNat * 2, none⟩)) (some 40) (Qu.idx (t := 22) (x := .tmp 39) (y := .const (.int .i64 1)) (c := p3_1.2) (kk := .i64) (sz := 2) (by kernel_rfl) (by kernel_rfl) (by kernel_rfl) (by kernel_rfl) hx5_17a (idx_lt hx5_17) hp5_17A) (by kernel_rfl) ?_
            refine O.pure 2 [(0, 1)] [1, 2, 4, 5, 6, 38, 42] [p5_17.1, p5_17.2.1 + (1 : Int).toNat * 2 + 1] (fr' := [(1, .slice ((some ⟨p1_3, 0, none⟩, 3) : Hd).1 ([(⟨1, 5⟩ : S40), (⟨0, 9⟩ : S40), (⟨1, 2⟩ : S40)] : List S40).length ((some ⟨p1_3, 0, none⟩, 3) : Hd).2), (2, .slice p2_1.1 x2_1.length p2_1.2), (4, .int .i64 x3_1.2), (5, .int .i64 x4_1.1), (6, .bool x4_1.2), (38, .bool true), (42, .int .i64 x5_17.f1)]) (bx' := []) (by kernel_rfl) ?_
            refine O.q (v := .bool true) (some 43) (Qu.eqv (u := .bool (x5_17.f1 == 7)) (v := .bool true) (0, 0) [] (by kernel_rfl) (congrArg Value.bool hc4)) (by kernel_rfl) ?_
            refine O.pure 3 [] [1, 2, 5, 6, 45, 46] [] (fr' := [(1, .slice ((some ⟨p1_3, 0, none⟩, 3) : Hd).1 ([(⟨1, 5⟩ : S40), (⟨0, 9⟩ : S40), (⟨1, 2⟩ : S40)] : List S40).length ((some ⟨p1_3, 0, none⟩, 3) : Hd).2), (2, .slice p2_1.1 x2_1.length p2_1.2), (5, .int .i64 x4_1.1), (6, .bool x4_1.2), (45, .bool true), (46, .int .i64 x3_1.2)]) (bx' := []) (by kernel_rfl) ?_
            refine O.q (v := .bool false) (some 47) (Qu.eqv (u := .bool (x3_1.2 == 0)) (v := .bool false) (0, 0) [] (by kernel_rfl) (congrArg Value.bool hc5)) (by kernel_rfl) ?_
            refine O.pure 22 [] [0] [] (fr' := [(0, .bool false)]) (bx' := []) (by kernel_rfl) ?_
            refine O.nil (by kernel_rfl) ?_
            obtain rfl := Option.some.inj H
            exact J.doneS [] [] [] [] [] () (vs := [.bool false]) (by kernel_rfl) (by kernel_rfl) (by kernel_rfl) (by kernel_rfl) (by kernel_rfl) (by decide)
        · refine J.region (by kernel_rfl) ?_
          refine O.pure 2 [] [1, 2, 3, 4, 5, 6, 24] [] (fr' := [(1, .slice ((some ⟨p1_3, 0, none⟩, 3) : Hd).1 ([(⟨1, 5⟩ : S40), (⟨0, 9⟩ : S40), (⟨1, 2⟩ : S40)] : List S40).length ((some ⟨p1_3, 0, none⟩, 3) : Hd).2), (2, .slice p2_1.1 x2_1.length p2_1.2), (3, .slice p3_1.1 x3_1.1.length p3_1.2), (4, .int .i64 x3_1.2), (5, .int .i64 x4_1.1), (6, .bool x4_1.2), (24, .int .i64 (x2_1.length : Int))]) (bx' := []) (by kernel_rfl) ?_
          refine O.q (v := .bool true) (some 25) (Qu.eqv (u := .bool ((x2_1.length : Int) == 3)) (v := .bool true) (0, 0) [] (by kernel_rfl) (congrArg Value.bool hc1)) (by kernel_rfl) ?_
          refine O.pure 2 [] [1, 2, 3, 4, 5, 6, 26, 27] [] (fr' := [(1, .slice ((some ⟨p1_3, 0, none⟩, 3) : Hd).1 ([(⟨1, 5⟩ : S40), (⟨0, 9⟩ : S40), (⟨1, 2⟩ : S40)] : List S40).length ((some ⟨p1_3, 0, none⟩, 3) : Hd).2), (2, .slice p2_1.1 x2_1.length p2_1.2), (3, .slice p3_1.1 x3_1.1.length p3_1.2), (4, .int .i64 x3_1.2), (5, .int .i64 x4_1.1), (6, .bool x4_1.2), (26, .bool true), (27, .slice p2_1.1 x2_1.length p2_1.2)]) (bx' := []) (by kernel_rfl) ?_
          refine O.mono (fun w hS => hS.rowsel [2, 0, 1] rfl (by decide)) ?_
          refine O.mono (fun w hS => hS.freezeH (h := p2_1) (xs := x2_1)) ?_
          refine O.open (d := kd40) (h := p2_1) (i := 1) 0 rfl hx5_5 (op40 _) (fun p5_5 hp5_5A => ?_)
          refine O.q (v := .pointer (some ⟨p5_5.1, p5_5.2.1 + (1 : Int).toNat * 2, none⟩)) (some 28) (Qu.idx (t := 22) (x := .tmp 27) (y := .const (.int .i64 1)) (c := p2_1.2) (kk := .i64) (sz := 2) (by kernel_rfl) (by kernel_rfl) (by kernel_rfl) (by kernel_rfl) hx5_5a (idx_lt hx5_5) hp5_5A) (by kernel_rfl) ?_
          refine O.pure 2 [(0, 0)] [1, 2, 3, 4, 5, 6, 26, 29, 30] [p5_5.1, p5_5.2.1 + (1 : Int).toNat * 2] (fr' := [(1, .slice ((some ⟨p1_3, 0, none⟩, 3) : Hd).1 ([(⟨1, 5⟩ : S40), (⟨0, 9⟩ : S40), (⟨1, 2⟩ : S40)] : List S40).length ((some ⟨p1_3, 0, none⟩, 3) : Hd).2), (2, .slice p2_1.1 x2_1.length p2_1.2), (3, .slice p3_1.1 x3_1.1.length p3_1.2), (4, .int .i64 x3_1.2), (5, .int .i64 x4_1.1), (6, .bool x4_1.2), (26, .bool true), (29, .agg #[.int .i64 x5_5.f0, .int .i64 x5_5.f1]), (30, .agg #[.int .i64 1, .int .i64 2])]) (bx' := []) (by kernel_rfl) ?_
          refine O.q (v := .bool true) (some 31) (Qu.as (congrArg Value.bool hc2) (Qu.binT (op := .eql) (t := 40) (t' := 40) (x := .tmp 29) (y := .tmp 30) (u := .agg #[.int .i64 x5_5.f0, .int .i64 x5_5.f1]) (v := .agg #[.int .i64 1, .int .i64 2]) (by kernel_rfl) (by kernel_rfl) (by kernel_rfl) (by kernel_rfl))) (by kernel_rfl) ?_
          refine O.pure 4 [] [1, 2, 3, 4, 5, 6, 33, 35] [] (fr' := [(1, .slice ((some ⟨p1_3, 0, none⟩, 3) : Hd).1 ([(⟨1, 5⟩ : S40), (⟨0, 9⟩ : S40), (⟨1, 2⟩ : S40)] : List S40).length ((some ⟨p1_3, 0, none⟩, 3) : Hd).2), (2, .slice p2_1.1 x2_1.length p2_1.2), (3, .slice p3_1.1 x3_1.1.length p3_1.2), (4, .int .i64 x3_1.2), (5, .int .i64 x4_1.1), (6, .bool x4_1.2), (33, .bool true), (35, .int .i64 (x3_1.1.length : Int))]) (bx' := []) (by kernel_rfl) ?_
          refine O.q (v := .bool true) (some 36) (Qu.eqv (u := .bool ((x3_1.1.length : Int) == 2)) (v := .bool true) (0, 0) [] (by kernel_rfl) (congrArg Value.bool hc3)) (by kernel_rfl) ?_
          refine O.pure 3 [] [1, 2, 4, 5, 6, 38, 39] [] (fr' := [(1, .slice ((some ⟨p1_3, 0, none⟩, 3) : Hd).1 ([(⟨1, 5⟩ : S40), (⟨0, 9⟩ : S40), (⟨1, 2⟩ : S40)] : List S40).length ((some ⟨p1_3, 0, none⟩, 3) : Hd).2), (2, .slice p2_1.1 x2_1.length p2_1.2), (4, .int .i64 x3_1.2), (5, .int .i64 x4_1.1), (6, .bool x4_1.2), (38, .bool true), (39, .slice p3_1.1 x3_1.1.length p3_1.2)]) (bx' := []) (by kernel_rfl) ?_
          refine O.mono (fun w hS => hS.rowsel [1, 0] rfl (by decide)) ?_
          refine O.mono (fun w hS => hS.freezeH (h := p3_1) (xs := x3_1.1)) ?_
          refine O.open (d := kd40) (h := p3_1) (i := 1) 0 rfl hx5_17 (op40 _) (fun p5_17 hp5_17A => ?_)
          refine O.q (v := .pointer (some ⟨p5_17.1, p5_17.2.1 + (1 : Int).toNat * 2, none⟩)) (some 40) (Qu.idx (t := 22) (x := .tmp 39) (y := .const (.int .i64 1)) (c := p3_1.2) (kk := .i64) (sz := 2) (by kernel_rfl) (by kernel_rfl) (by kernel_rfl) (by kernel_rfl) hx5_17a (idx_lt hx5_17) hp5_17A) (by kernel_rfl) ?_
          refine O.pure 2 [(0, 1)] [1, 2, 4, 5, 6, 38, 42] [p5_17.1, p5_17.2.1 + (1 : Int).toNat * 2 + 1] (fr' := [(1, .slice ((some ⟨p1_3, 0, none⟩, 3) : Hd).1 ([(⟨1, 5⟩ : S40), (⟨0, 9⟩ : S40), (⟨1, 2⟩ : S40)] : List S40).length ((some ⟨p1_3, 0, none⟩, 3) : Hd).2), (2, .slice p2_1.1 x2_1.length p2_1.2), (4, .int .i64 x3_1.2), (5, .int .i64 x4_1.1), (6, .bool x4_1.2), (38, .bool true), (42, .int .i64 x5_17.f1)]) (bx' := []) (by kernel_rfl) ?_
          refine O.q (v := .bool false) (some 43) (Qu.eqv (u := .bool (x5_17.f1 == 7)) (v := .bool false) (0, 0) [] (by kernel_rfl) (congrArg Value.bool hc4)) (by kernel_rfl) ?_
          refine O.pure 26 [] [0] [] (fr' := [(0, .bool false)]) (bx' := []) (by kernel_rfl) ?_
          refine O.nil (by kernel_rfl) ?_
          obtain rfl := Option.some.inj H
          exact J.doneS [] [] [] [] [] () (vs := [.bool false]) (by kernel_rfl) (by kernel_rfl) (by kernel_rfl) (by kernel_rfl) (by kernel_rfl) (by decide)
      · refine J.region (by kernel_rfl) ?_
        refine O.pure 2 [] [1, 2, 3, 4, 5, 6, 24] [] (fr' := [(1, .slice ((some ⟨p1_3, 0, none⟩, 3) : Hd).1 ([(⟨1, 5⟩ : S40), (⟨0, 9⟩ : S40), (⟨1, 2⟩ : S40)] : List S40).length ((some ⟨p1_3, 0, none⟩, 3) : Hd).2), (2, .slice p2_1.1 x2_1.length p2_1.2), (3, .slice p3_1.1 x3_1.1.length p3_1.2), (4, .int .i64 x3_1.2), (5, .int .i64 x4_1.1), (6, .bool x4_1.2), (24, .int .i64 (x2_1.length : Int))]) (bx' := []) (by kernel_rfl) ?_
        refine O.q (v := .bool true) (some 25) (Qu.eqv (u := .bool ((x2_1.length : Int) == 3)) (v := .bool true) (0, 0) [] (by kernel_rfl) (congrArg Value.bool hc1)) (by kernel_rfl) ?_
        refine O.pure 2 [] [1, 2, 3, 4, 5, 6, 26, 27] [] (fr' := [(1, .slice ((some ⟨p1_3, 0, none⟩, 3) : Hd).1 ([(⟨1, 5⟩ : S40), (⟨0, 9⟩ : S40), (⟨1, 2⟩ : S40)] : List S40).length ((some ⟨p1_3, 0, none⟩, 3) : Hd).2), (2, .slice p2_1.1 x2_1.length p2_1.2), (3, .slice p3_1.1 x3_1.1.length p3_1.2), (4, .int .i64 x3_1.2), (5, .int .i64 x4_1.1), (6, .bool x4_1.2), (26, .bool true), (27, .slice p2_1.1 x2_1.length p2_1.2)]) (bx' := []) (by kernel_rfl) ?_
        refine O.mono (fun w hS => hS.rowsel [2, 0, 1] rfl (by decide)) ?_
        refine O.mono (fun w hS => hS.freezeH (h := p2_1) (xs := x2_1)) ?_
        refine O.open (d := kd40) (h := p2_1) (i := 1) 0 rfl hx5_5 (op40 _) (fun p5_5 hp5_5A => ?_)
        refine O.q (v := .pointer (some ⟨p5_5.1, p5_5.2.1 + (1 : Int).toNat * 2, none⟩)) (some 28) (Qu.idx (t := 22) (x := .tmp 27) (y := .const (.int .i64 1)) (c := p2_1.2) (kk := .i64) (sz := 2) (by kernel_rfl) (by kernel_rfl) (by kernel_rfl) (by kernel_rfl) hx5_5a (idx_lt hx5_5) hp5_5A) (by kernel_rfl) ?_
        refine O.pure 2 [(0, 0)] [1, 2, 3, 4, 5, 6, 26, 29, 30] [p5_5.1, p5_5.2.1 + (1 : Int).toNat * 2] (fr' := [(1, .slice ((some ⟨p1_3, 0, none⟩, 3) : Hd).1 ([(⟨1, 5⟩ : S40), (⟨0, 9⟩ : S40), (⟨1, 2⟩ : S40)] : List S40).length ((some ⟨p1_3, 0, none⟩, 3) : Hd).2), (2, .slice p2_1.1 x2_1.length p2_1.2), (3, .slice p3_1.1 x3_1.1.length p3_1.2), (4, .int .i64 x3_1.2), (5, .int .i64 x4_1.1), (6, .bool x4_1.2), (26, .bool true), (29, .agg #[.int .i64 x5_5.f0, .int .i64 x5_5.f1]), (30, .agg #[.int .i64 1, .int .i64 2])]) (bx' := []) (by kernel_rfl) ?_
        refine O.q (v := .bool true) (some 31) (Qu.as (congrArg Value.bool hc2) (Qu.binT (op := .eql) (t := 40) (t' := 40) (x := .tmp 29) (y := .tmp 30) (u := .agg #[.int .i64 x5_5.f0, .int .i64 x5_5.f1]) (v := .agg #[.int .i64 1, .int .i64 2]) (by kernel_rfl) (by kernel_rfl) (by kernel_rfl) (by kernel_rfl))) (by kernel_rfl) ?_
        refine O.pure 4 [] [1, 2, 3, 4, 5, 6, 33, 35] [] (fr' := [(1, .slice ((some ⟨p1_3, 0, none⟩, 3) : Hd).1 ([(⟨1, 5⟩ : S40), (⟨0, 9⟩ : S40), (⟨1, 2⟩ : S40)] : List S40).length ((some ⟨p1_3, 0, none⟩, 3) : Hd).2), (2, .slice p2_1.1 x2_1.length p2_1.2), (3, .slice p3_1.1 x3_1.1.length p3_1.2), (4, .int .i64 x3_1.2), (5, .int .i64 x4_1.1), (6, .bool x4_1.2), (33, .bool true), (35, .int .i64 (x3_1.1.length : Int))]) (bx' := []) (by kernel_rfl) ?_
        refine O.q (v := .bool false) (some 36) (Qu.eqv (u := .bool ((x3_1.1.length : Int) == 2)) (v := .bool false) (0, 0) [] (by kernel_rfl) (congrArg Value.bool hc3)) (by kernel_rfl) ?_
        refine O.pure 33 [] [0] [] (fr' := [(0, .bool false)]) (bx' := []) (by kernel_rfl) ?_
        refine O.nil (by kernel_rfl) ?_
        obtain rfl := Option.some.inj H
        exact J.doneS [] [] [] [] [] () (vs := [.bool false]) (by kernel_rfl) (by kernel_rfl) (by kernel_rfl) (by kernel_rfl) (by kernel_rfl) (by decide)
    · refine J.region (by kernel_rfl) ?_
      refine O.pure 2 [] [1, 2, 3, 4, 5, 6, 24] [] (fr' := [(1, .slice ((some ⟨p1_3, 0, none⟩, 3) : Hd).1 ([(⟨1, 5⟩ : S40), (⟨0, 9⟩ : S40), (⟨1, 2⟩ : S40)] : List S40).length ((some ⟨p1_3, 0, none⟩, 3) : Hd).2), (2, .slice p2_1.1 x2_1.length p2_1.2), (3, .slice p3_1.1 x3_1.1.length p3_1.2), (4, .int .i64 x3_1.2), (5, .int .i64 x4_1.1), (6, .bool x4_1.2), (24, .int .i64 (x2_1.length : Int))]) (bx' := []) (by kernel_rfl) ?_
      refine O.q (v := .bool true) (some 25) (Qu.eqv (u := .bool ((x2_1.length : Int) == 3)) (v := .bool true) (0, 0) [] (by kernel_rfl) (congrArg Value.bool hc1)) (by kernel_rfl) ?_
      refine O.pure 2 [] [1, 2, 3, 4, 5, 6, 26, 27] [] (fr' := [(1, .slice ((some ⟨p1_3, 0, none⟩, 3) : Hd).1 ([(⟨1, 5⟩ : S40), (⟨0, 9⟩ : S40), (⟨1, 2⟩ : S40)] : List S40).length ((some ⟨p1_3, 0, none⟩, 3) : Hd).2), (2, .slice p2_1.1 x2_1.length p2_1.2), (3, .slice p3_1.1 x3_1.1.length p3_1.2), (4, .int .i64 x3_1.2), (5, .int .i64 x4_1.1), (6, .bool x4_1.2), (26, .bool true), (27, .slice p2_1.1 x2_1.length p2_1.2)]) (bx' := []) (by kernel_rfl) ?_
      refine O.mono (fun w hS => hS.rowsel [2, 0, 1] rfl (by decide)) ?_
      refine O.mono (fun w hS => hS.freezeH (h := p2_1) (xs := x2_1)) ?_
      refine O.open (d := kd40) (h := p2_1) (i := 1) 0 rfl hx5_5 (op40 _) (fun p5_5 hp5_5A => ?_)
      refine O.q (v := .pointer (some ⟨p5_5.1, p5_5.2.1 + (1 : Int).toNat * 2, none⟩)) (some 28) (Qu.idx (t := 22) (x := .tmp 27) (y := .const (.int .i64 1)) (c := p2_1.2) (kk := .i64) (sz := 2) (by kernel_rfl) (by kernel_rfl) (by kernel_rfl) (by kernel_rfl) hx5_5a (idx_lt hx5_5) hp5_5A) (by kernel_rfl) ?_
      refine O.pure 2 [(0, 0)] [1, 2, 3, 4, 5, 6, 26, 29, 30] [p5_5.1, p5_5.2.1 + (1 : Int).toNat * 2] (fr' := [(1, .slice ((some ⟨p1_3, 0, none⟩, 3) : Hd).1 ([(⟨1, 5⟩ : S40), (⟨0, 9⟩ : S40), (⟨1, 2⟩ : S40)] : List S40).length ((some ⟨p1_3, 0, none⟩, 3) : Hd).2), (2, .slice p2_1.1 x2_1.length p2_1.2), (3, .slice p3_1.1 x3_1.1.length p3_1.2), (4, .int .i64 x3_1.2), (5, .int .i64 x4_1.1), (6, .bool x4_1.2), (26, .bool true), (29, .agg #[.int .i64 x5_5.f0, .int .i64 x5_5.f1]), (30, .agg #[.int .i64 1, .int .i64 2])]) (bx' := []) (by kernel_rfl) ?_
      refine O.q (v := .bool false) (some 31) (Qu.as (congrArg Value.bool hc2) (Qu.binT (op := .eql) (t := 40) (t' := 40) (x := .tmp 29) (y := .tmp 30) (u := .agg #[.int .i64 x5_5.f0, .int .i64 x5_5.f1]) (v := .agg #[.int .i64 1, .int .i64 2]) (by kernel_rfl) (by kernel_rfl) (by kernel_rfl) (by kernel_rfl))) (by kernel_rfl) ?_
      refine O.pure 38 [] [0] [] (fr' := [(0, .bool false)]) (bx' := []) (by kernel_rfl) ?_
      refine O.nil (by kernel_rfl) ?_
      obtain rfl := Option.some.inj H
      exact J.doneS [] [] [] [] [] () (vs := [.bool false]) (by kernel_rfl) (by kernel_rfl) (by kernel_rfl) (by kernel_rfl) (by kernel_rfl) (by decide)
  · refine J.region (by kernel_rfl) ?_
    refine O.pure 2 [] [1, 2, 3, 4, 5, 6, 24] [] (fr' := [(1, .slice ((some ⟨p1_3, 0, none⟩, 3) : Hd).1 ([(⟨1, 5⟩ : S40), (⟨0, 9⟩ : S40), (⟨1, 2⟩ : S40)] : List S40).length ((some ⟨p1_3, 0, none⟩, 3) : Hd).2), (2, .slice p2_1.1 x2_1.length p2_1.2), (3, .slice p3_1.1 x3_1.1.length p3_1.2), (4, .int .i64 x3_1.2), (5, .int .i64 x4_1.1), (6, .bool x4_1.2), (24, .int .i64 (x2_1.length : Int))]) (bx' := []) (by kernel_rfl) ?_
    refine O.q (v := .bool false) (some 25) (Qu.eqv (u := .bool ((x2_1.length : Int) == 3)) (v := .bool false) (0, 0) [] (by kernel_rfl) (congrArg Value.bool hc1)) (by kernel_rfl) ?_
    refine O.pure 44 [] [0] [] (fr' := [(0, .bool false)]) (bx' := []) (by kernel_rfl) ?_
    refine O.nil (by kernel_rfl) ?_
    obtain rfl := Option.some.inj H
    exact J.doneS [] [] [] [] [] () (vs := [.bool false]) (by kernel_rfl) (by kernel_rfl) (by kernel_rfl) (by kernel_rfl) (by kernel_rfl) (by decide)
/-! ### haywain/haywainref04.SameMsgs: function 12 -/
def haywainref04_SameMsgs.l2 (K : Nat) (a0 : List S40) (a1 : List S40) : Nat → Int → Option Bool
  | 0, _ => none
  | k + 1, s2 => cond (decide (s2 < (a0.length : Int))) ((idxO a0 s2).bind fun x6_2 => (idxO a1 s2).bind fun x6_6 => cond (!(x6_2.f0 == x6_6.f0 && (x6_2.f1 == x6_6.f1 && true))) (some (false)) (haywainref04_SameMsgs.l2 K a0 a1 k (IntKind.wrap .i64 (s2 + 1)))) (some (true))
def haywainref04_SameMsgs.f (K : Nat) (a0 : List S40) (a1 : List S40) : Option Bool := cond ((a0.length : Int) != (a1.length : Int)) (some (false)) (haywainref04_SameMsgs.l2 K a0 a1 K 0)
set_option maxRecDepth 100000 in
set_option maxHeartbeats 1000000 in
theorem haywainref04_SameMsgs.con (K : Nat) (a0 : List S40) (a1 : List S40) (h0 : Hd) (h1 : Hd) (r : Bool) (X : Nat → Nat → Prop) (w : World) (hS : St X w [] [] [] [] [Rd kd40 h0.1 h0.2 a0, Rd kd40 h1.1 h1.2 a1] w) (H : haywainref04_SameMsgs.f K a0 a1 = some r) :
    Cn Try.prog 12 [.slice h0.1 a0.length h0.2, .slice h1.1 a1.length h1.2] X w [] (fun i : Unit => .bool r) (fun i => []) (fun i => []) (fun i => []) := by
  refine Cn.of Try.func12 (by kernel_rfl) hS ?_
  unfold haywainref04_SameMsgs.f at H
  refine J.seq (by kernel_rfl) ?_
  refine J.region (by kernel_rfl) ?_
  refine O.pure 1 [] [0, 1] [] (fr' := [(0, .slice h0.1 a0.length h0.2), (1, .slice h1.1 a1.length h1.2)]) (bx' := []) (by kernel_rfl) ?_
  refine O.nil (by kernel_rfl) ?_
  refine J.seq (by kernel_rfl) ?_
  refine J.seq (by kernel_rfl) ?_
  refine J.region (by kernel_rfl) ?_
  refine O.pure 5 [] [0, 1, 10] [] (fr' := [(0, .slice h0.1 a0.length h0.2), (1, .slice h1.1 a1.length h1.2), (10, .bool ((a0.length : Int) != (a1.length : Int)))]) (bx' := []) (by kernel_rfl) ?_
  refine O.nil (by kernel_rfl) ?_
  rcases condE H with ⟨hc1, H⟩ | ⟨hc1, H⟩
  · refine J.condT (x := .tmp 10) (t := ((a0.length : Int) != (a1.length : Int))) (by kernel_rfl) (by kernel_rfl) hc1 ?_
    refine J.seq (by kernel_rfl) ?_
    refine J.region (by kernel_rfl) ?_
    refine O.pure 1 [] [4] [] (fr' := [(4, .bool false)]) (bx' := []) (by kernel_rfl) ?_
    refine O.nil (by kernel_rfl) ?_
    obtain rfl := Option.some.inj H
    exact J.doneS [] [] [] [] [] () (vs := [.bool false]) (by kernel_rfl) (by kernel_rfl) (by kernel_rfl) (by kernel_rfl) (by kernel_rfl) (by decide)
  · refine J.condF (x := .tmp 10) (t := ((a0.length : Int) != (a1.length : Int))) (by kernel_rfl) (by kernel_rfl) hc1 ?_
    refine J.skip (by kernel_rfl) ?_
    refine J.seq (by kernel_rfl) ?_
    refine J.seq (by kernel_rfl) ?_
    refine J.region (by kernel_rfl) ?_
    refine O.pure 1 [] [0, 1, 5] [] (fr' := [(0, .slice h0.1 a0.length h0.2), (1, .slice h1.1 a1.length h1.2), (5, .int .i64 0)]) (bx' := []) (by kernel_rfl) ?_
    refine O.nil (by kernel_rfl) ?_
    refine J.block (id := 0) (by kernel_rfl) ?_
    refine J.loopI (σ := Int) (γ := Unit) (f := fun m_ s_ => haywainref04_SameMsgs.l2 K a0 a1 m_ s_) (fun s2 g2 => [(0, .slice h0.1 a0.length h0.2), (1, .slice h1.1 a1.length h1.2), (5, .int .i64 s2)]) (fun s2 g2 => St X w [] [] [] [] [Rd kd40 h0.1 h0.2 a0, Rd kd40 h1.1 h1.2 a1]) K 0 () (by kernel_rfl) H (fun _ => rfl) (fun m_ s2 H ih2 g2 => ?_) (fun h_ => ?_)
    · unfold haywainref04_SameMsgs.l2 at H
      refine J.seq (by kernel_rfl) ?_
      refine J.seq (by kernel_rfl) ?_
      refine J.region (by kernel_rfl) ?_
      refine O.pure 4 [] [0, 1, 5, 14] [] (fr' := [(0, .slice h0.1 a0.length h0.2), (1, .slice h1.1 a1.length h1.2), (5, .int .i64 s2), (14, .bool (decide (s2 < (a0.length : Int))))]) (bx' := []) (by kernel_rfl) ?_
      refine O.nil (by kernel_rfl) ?_
      rcases condE H with ⟨hc7, H⟩ | ⟨hc7, H⟩
      · refine J.condT (x := .tmp 14) (t := (decide (s2 < (a0.length : Int)))) (by kernel_rfl) (by kernel_rfl) hc7 ?_
        refine J.skip (by kernel_rfl) ?_
        refine J.seq (by kernel_rfl) ?_
        refine J.block (id := 1) (by kernel_rfl) ?_
        refine J.seq (by kernel_rfl) ?_
        obtain ⟨x6_2, hx6_2, H⟩ := bindE H
        obtain ⟨hx6_2a, hx6_2⟩ := idxE hx6_2
        obtain ⟨x6_6, hx6_6, H⟩ := bindE H
        obtain ⟨hx6_6a, hx6_6⟩ := idxE hx6_6
        refine J.open (d := kd40) (h := h0) (i := s2) 0 rfl hx6_2 (op40 _) (fun p6_2 hp6_2A => ?_)
        refine J.open (d := kd40) (h := h1) (i := s2) 1 rfl hx6_6 (op40 _) (fun p6_6 hp6_6A => ?_)
        refine J.drawS (by kernel_rfl) [(0, some 17, .slice h0.1 a0.length h0.2), (1, some 18, .int .i64 s2), (3, some 20, .agg #[.int .i64 x6_2.f0, .int .i64 x6_2.f1]), (4, some 21, .slice h1.1 a1.length h1.2), (5, some 22, .int .i64 s2), (7, some 24, .agg #[.int .i64 x6_6.f0, .int .i64 x6_6.f1]), (2, some 19, .pointer (some ⟨p6_2.1, p6_2.2.1 + s2.toNat * 2, none⟩)), (6, some 23, .pointer (some ⟨p6_6.1, p6_6.2.1 + s2.toNat * 2, none⟩)), (8, some 25, .bool (!(x6_2.f0 == x6_6.f0 && (x6_2.f1 == x6_6.f1 && true))))] ([0, 1, 3, 4, 5, 7] ++ [2, 6, 8]) (by kernel_rfl) ?_
        refine D.fin (fr' := [(0, .slice h0.1 a0.length h0.2), (1, .slice h1.1 a1.length h1.2), (5, .int .i64 s2), (25, .bool (!(x6_2.f0 == x6_6.f0 && (x6_2.f1 == x6_6.f1 && true))))]) [0, 1, 3, 4, 5, 7] [2, 6, 8] [(1, 0), (0, 0)] [p6_2.1, p6_2.2.1 + s2.toNat * 2, p6_6.1, p6_6.2.1 + s2.toNat * 2] [0, 1, 5, 25] (by kernel_rfl) (by kernel_rfl) (⟨QuAt.mk (v := .pointer (some ⟨p6_2.1, p6_2.2.1 + s2.toNat * 2, none⟩)) (some 19) (by kernel_rfl) (by kernel_rfl) (Qu.idx (t := 22) (x := .tmp 17) (y := .tmp 18) (c := h0.2) (kk := .i64) (sz := 2) (by kernel_rfl) (by kernel_rfl) (by kernel_rfl) (by kernel_rfl) hx6_2a (idx_lt hx6_2) hp6_2A), QuAt.mk (v := .pointer (some ⟨p6_6.1, p6_6.2.1 + s2.toNat * 2, none⟩)) (some 23) (by kernel_rfl) (by kernel_rfl) (Qu.idx (t := 22) (x := .tmp 21) (y := .tmp 22) (c := h1.2) (kk := .i64) (sz := 2) (by kernel_rfl) (by kernel_rfl) (by kernel_rfl) (by kernel_rfl) hx6_6a (idx_lt hx6_6) hp6_6A), QuAt.mk (v := .bool (!(x6_2.f0 == x6_6.f0 && (x6_2.f1 == x6_6.f1 && true)))) (some 25) (by kernel_rfl) (by kernel_rfl) (Qu.binT (op := .neq) (t := 40) (t' := 40) (x := .tmp 20) (y := .tmp 24) (u := .agg #[.int .i64 x6_2.f0, .int .i64 x6_2.f1]) (v := .agg #[.int .i64 x6_6.f0, .int .i64 x6_6.f1]) (by kernel_rfl) (by kernel_rfl) (by kernel_rfl) (by kernel_rfl)), trivial⟩) (by kernel_rfl) ?_
        rcases condE H with ⟨hc8, H⟩ | ⟨hc8, H⟩
        · refine J.condT (x := .tmp 25) (t := (!(x6_2.f0 == x6_6.f0 && (x6_2.f1 == x6_6.f1 && true)))) (by kernel_rfl) (by kernel_rfl) hc8 ?_
          refine J.seq (by kernel_rfl) ?_
          refine J.region (by kernel_rfl) ?_
          refine O.pure 1 [] [4] [] (fr' := [(4, .bool false)]) (bx' := []) (by kernel_rfl) ?_
          refine O.nil (by kernel_rfl) ?_
          obtain rfl := Option.some.inj H
          exact J.doneS [] [] [] [] [] () (vs := [.bool false]) (by kernel_rfl) (by kernel_rfl) (by kernel_rfl) (by kernel_rfl) (by kernel_rfl) (by decide)
        · refine J.condF (x := .tmp 25) (t := (!(x6_2.f0 == x6_6.f0 && (x6_2.f1 == x6_6.f1 && true)))) (by kernel_rfl) (by kernel_rfl) hc8 ?_
          refine J.skip (by kernel_rfl) ?_
          refine J.out ?_
          refine J.region (by kernel_rfl) ?_
          refine O.pure 3 [] [0, 1, 5] [] (fr' := [(0, .slice h0.1 a0.length h0.2), (1, .slice h1.1 a1.length h1.2), (5, .int .i64 (IntKind.wrap .i64 (s2 + 1)))]) (bx' := []) (by kernel_rfl) ?_
          refine O.nil (by kernel_rfl) ?_
          exact J.conv2 [0, 1, 5] [0, 1] [] [] (by kernel_rfl) (by kernel_rfl) (by kernel_rfl) (by kernel_rfl) (by decide) (ih2 (IntKind.wrap .i64 (s2 + 1)) () H)
      · refine J.condF (x := .tmp 14) (t := (decide (s2 < (a0.length : Int)))) (by kernel_rfl) (by kernel_rfl) hc7 ?_
        refine J.exit (id := 0) (by kernel_rfl) rfl ?_
        refine J.seq (by kernel_rfl) ?_
        refine J.region (by kernel_rfl) ?_
        refine O.pure 1 [] [4] [] (fr' := [(4, .bool true)]) (bx' := []) (by kernel_rfl) ?_
        refine O.nil (by kernel_rfl) ?_
        obtain rfl := Option.some.inj H
        exact J.doneS [] [] [] [] [] () (vs := [.bool true]) (by kernel_rfl) (by kernel_rfl) (by kernel_rfl) (by kernel_rfl) (by kernel_rfl) (by decide)
    · exact J.conv2 [0, 1, 5] [0, 1] [] [] (by kernel_rfl) (by kernel_rfl) (by kernel_rfl) (by kernel_rfl) (by decide) h_
/-! ### haywain/haywainlaw05.own: function 14 -/
def haywainlaw05_own.f (K : Nat) (a0 : List S40) : Option (List S40) := (appO 16 ([] : List S40) a0).bind fun y1_2 => some ((([] : List S40) ++ a0))
set_option maxRecDepth 100000 in
set_option maxHeartbeats 1000000 in
theorem haywainlaw05_own.con (K : Nat) (a0 : List S40) (h0 : Hd) (r : (List S40)) (X : Nat → Nat → Prop) (w : World) (hS : St X w [] [] [] [] [Rd kd40 h0.1 h0.2 a0] w) (H : haywainlaw05_own.f K a0 = some r) :
    Cn Try.prog 14 [.slice h0.1 a0.length h0.2] X w [] (fun i : Hd => .slice i.1 r.length i.2) (fun i => []) (fun i => [mkRow kd40 40 (.slice i.1 r.length i.2) r]) (fun i => []) := by
  refine Cn.of Try.func14 (by kernel_rfl) hS ?_
  unfold haywainlaw05_own.f at H
  refine J.seq (by kernel_rfl) ?_
  refine J.region (by kernel_rfl) ?_
  refine O.pure 1 [] [0] [] (fr' := [(0, .slice h0.1 a0.length h0.2)]) (bx' := []) (by kernel_rfl) ?_
  refine O.nil (by kernel_rfl) ?_
  refine J.seq (by kernel_rfl) ?_
  obtain ⟨y1_2, hy1_2, H⟩ := bindE H
  have hy1_2a := (appE hy1_2).1
  refine J.region (by kernel_rfl) ?_
  refine O.e (some 3) (Ev.lit (t := 22) (len := 0) (parts := #[]) (ps := []) (cs := []) (e := 40) kd40 ([] : List S40) (by kernel_rfl) (by kernel_rfl) (by kernel_rfl) (by kernel_rfl) (by kernel_rfl) (by decide) (fun w' hφ => (Els.nil _ _ _))) (by kernel_rfl) (fun p1_0 => ?_)
  refine O.pure 1 [] [3, 4] [] (fr' := [(3, .slice ((some ⟨p1_0, 0, none⟩, 0) : Hd).1 ([] : List S40).length ((some ⟨p1_0, 0, none⟩, 0) : Hd).2), (4, .slice h0.1 a0.length h0.2)]) (bx' := []) (by kernel_rfl) ?_
  refine O.e (some 5) (Ev.appSl (d := kd40) (ys := a0) (A := h0.1) (c := h0.2) (x := .tmp 3) (y := .tmp 4) (t := 22) (bytes := 16) 0 (by kernel_rfl) (by kernel_rfl) (by kernel_rfl) rfl (by kernel_rfl) (by decide) hy1_2a) (by kernel_rfl) (fun p1_2 => ?_)
  refine O.pure 1 [] [2] [] (fr' := [(2, .slice p1_2.1 (([] : List S40) ++ a0).length p1_2.2)]) (bx' := []) (by kernel_rfl) ?_
  refine O.nil (by kernel_rfl) ?_
  obtain rfl := Option.some.inj H
  exact J.doneS [] [] [] [] [0] p1_2 (vs := [.slice p1_2.1 (([] : List S40) ++ a0).length p1_2.2]) (by kernel_rfl) (by kernel_rfl) (by kernel_rfl) (by kernel_rfl) (by kernel_rfl) (by decide)
end Go.Proofs.Ytdbeannfjjbegaa.G
