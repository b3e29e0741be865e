-- PRINTED BY print.sh 35421559b90ae4d0a3588c463048766b98c2df88dd9212a6774a882060cdf62d: not written by this session
import Derived.Test.YtennlpldfjgldaaPLeaseSafex0
import Derived.Test.YtennlpldfjgldaaPLeaseSafex1
namespace Go.Proofs.Ytennlpldfjgldaa.PLeaseSafe
open Go.RowKit Go.Proofs.YtennlpldfjgldaaW.PrintWords Go.Proofs.YtennlpldfjgldaaW.PrintLast Go.Proofs.YtennlpldfjgldaaW.PrintMore
attribute [local go_sem] max2_int min2_int max_two min_two max_three min_three max_four min_four   -- for this text's walks alone
set_option linter.unusedVariables false
set_option linter.unusedSimpArgs false

/-! ### haywainlaw12_LeaseSafe: function 5 -/
mutual
def haywainlaw12_LeaseSafe.j0 : Nat → Int → Int → Int → List Int → List Int → Bool → Option (Bool)
  | 0, _, _, _, _, _, _ => none
  | k + 1, x0, x1, x2, x3, x4, x41 => if x41 = true then ((haywainlaw12_knows.f k).bind fun t124 => (some t124)) else ((lease_Until.f k x0 x2).bind fun bt125 => ((lease_Free.f k x1 x2).bind fun bt127 => (if bt125.2 = 0 then (haywainlaw12_LeaseSafe.j1 k x0 x1 x3 x4 bt125.1 bt127.1 (bt127.2 != 0)) else (haywainlaw12_LeaseSafe.j1 k x0 x1 x3 x4 bt125.1 bt127.1 true))))
def haywainlaw12_LeaseSafe.j1 : Nat → Int → Int → List Int → List Int → Int → Int → Bool → Option (Bool)
  | 0, _, _, _, _, _, _, _ => none
  | k + 1, x0, x1, x3, x4, x11, x13, x60 => if x60 = true then (some false) else (haywainlaw12_LeaseSafe.l0 k x3 x4 x11 x13 x0 x1 0)
def haywainlaw12_LeaseSafe.j3 : Nat → List Int → Int → Int → Int → Int → Option (Bool)
  | 0, _, _, _, _, _ => none
  | k + 1, x4, x11, x13, x15, x16 => haywainlaw12_LeaseSafe.l1 k x4 x11 x13 x15 x16 0
def haywainlaw12_LeaseSafe.l1 : Nat → List Int → Int → Int → Int → Int → Int → Option (Bool)
  | 0, _, _, _, _, _, _ => none
  | k + 1, x4, x11, x13, x15, x16, x18 => if x18 < 150 then ((lease_Holds.f x15 x11).bind fun t131 => (if t131 = true then ((lease_Gone.f x16 x13).bind fun t132 => (haywainlaw12_LeaseSafe.j5 k x4 x11 x13 x15 x16 x18 t132)) else (haywainlaw12_LeaseSafe.j5 k x4 x11 x13 x15 x16 x18 false))) else ((haywainlaw12_knows.f k).bind fun t130 => (some t130))
def haywainlaw12_LeaseSafe.j5 : Nat → List Int → Int → Int → Int → Int → Int → Bool → Option (Bool)
  | 0, _, _, _, _, _, _, _ => none
  | k + 1, x4, x11, x13, x15, x16, x18, x93 => if x93 = true then (some false) else (if x18 < (x4.length : Int) then (if 0 ≤ x18 then (haywainlaw12_LeaseSafe.l1 k x4 x11 x13 (wrap64 ((wrap64 (x15 + 7)) + (Int.tmod (wrap64 (Int.tmod (rd x4 x18) 9)) 3))) (wrap64 ((wrap64 (x16 + 7)) + (wrap64 (Int.tdiv (wrap64 (Int.tmod (rd x4 x18) 9)) 3)))) (wrap64 (x18 + 1))) else (none)) else (if ((x4.length : Int) % 2) = 1 then (haywainlaw12_LeaseSafe.l1 k x4 x11 x13 (wrap64 ((wrap64 (x15 + 7)) + ((6 : Int) % 3))) (wrap64 ((wrap64 (x16 + 7)) + ((6 : Int) / 3))) (wrap64 (x18 + 1))) else (haywainlaw12_LeaseSafe.l1 k x4 x11 x13 (wrap64 ((wrap64 (x15 + 7)) + ((0 : Int) % 3))) (wrap64 ((wrap64 (x16 + 7)) + ((0 : Int) / 3))) (wrap64 (x18 + 1)))))
def haywainlaw12_LeaseSafe.l0 : Nat → List Int → List Int → Int → Int → Int → Int → Int → Option (Bool)
  | 0, _, _, _, _, _, _, _ => none
  | k + 1, x3, x4, x11, x13, x15, x16, x17 => if x17 < (x3.length : Int) then (if x17 < 50 then (if 0 ≤ x17 then (haywainlaw12_LeaseSafe.l0 k x3 x4 x11 x13 (wrap64 ((wrap64 (x15 + 7)) + (wrap64 (Int.tmod (rd x3 x17) 3)))) x16 (wrap64 (x17 + 1))) else (none)) else (haywainlaw12_LeaseSafe.j3 k x4 x11 x13 x15 x16)) else (haywainlaw12_LeaseSafe.j3 k x4 x11 x13 x15 x16)
end
def haywainlaw12_LeaseSafe.f (k : Nat) (a0 : Int) (a1 : Int) (a2 : Int) (l3 : List Int) (l4 : List Int) : Option (Bool) := if a0 < 0 then (haywainlaw12_LeaseSafe.j0 k a0 a1 a2 l3 l4 true) else (if a0 > 1073741824 then (haywainlaw12_LeaseSafe.j0 k a0 a1 a2 l3 l4 true) else (if a1 < 0 then (haywainlaw12_LeaseSafe.j0 k a0 a1 a2 l3 l4 true) else (if a1 > 1073741824 then (haywainlaw12_LeaseSafe.j0 k a0 a1 a2 l3 l4 true) else (if a2 < 1 then (haywainlaw12_LeaseSafe.j0 k a0 a1 a2 l3 l4 true) else (haywainlaw12_LeaseSafe.j0 k a0 a1 a2 l3 l4 (decide (a2 > 60)))))))
theorem haywainlaw12_LeaseSafe.mono_l : ∀ k, (∀ y0 y1 y2 y3 y4 y5, LeO (haywainlaw12_LeaseSafe.j0 k y0 y1 y2 y3 y4 y5) (haywainlaw12_LeaseSafe.j0 (k + 1) y0 y1 y2 y3 y4 y5)) ∧ (∀ y0 y1 y2 y3 y4 y5 y6, LeO (haywainlaw12_LeaseSafe.j1 k y0 y1 y2 y3 y4 y5 y6) (haywainlaw12_LeaseSafe.j1 (k + 1) y0 y1 y2 y3 y4 y5 y6)) ∧ (∀ y0 y1 y2 y3 y4, LeO (haywainlaw12_LeaseSafe.j3 k y0 y1 y2 y3 y4) (haywainlaw12_LeaseSafe.j3 (k + 1) y0 y1 y2 y3 y4)) ∧ (∀ y0 y1 y2 y3 y4 y5, LeO (haywainlaw12_LeaseSafe.l1 k y0 y1 y2 y3 y4 y5) (haywainlaw12_LeaseSafe.l1 (k + 1) y0 y1 y2 y3 y4 y5)) ∧ (∀ y0 y1 y2 y3 y4 y5 y6, LeO (haywainlaw12_LeaseSafe.j5 k y0 y1 y2 y3 y4 y5 y6) (haywainlaw12_LeaseSafe.j5 (k + 1) y0 y1 y2 y3 y4 y5 y6)) ∧ (∀ y0 y1 y2 y3 y4 y5 y6, LeO (haywainlaw12_LeaseSafe.l0 k y0 y1 y2 y3 y4 y5 y6) (haywainlaw12_LeaseSafe.l0 (k + 1) y0 y1 y2 y3 y4 y5 y6))
  | 0 => ⟨fun _ _ _ _ _ _ r h => by simp [haywainlaw12_LeaseSafe.j0] at h, fun _ _ _ _ _ _ _ r h => by simp [haywainlaw12_LeaseSafe.j1] at h, fun _ _ _ _ _ r h => by simp [haywainlaw12_LeaseSafe.j3] at h, fun _ _ _ _ _ _ r h => by simp [haywainlaw12_LeaseSafe.l1] at h, fun _ _ _ _ _ _ _ r h => by simp [haywainlaw12_LeaseSafe.j5] at h, fun _ _ _ _ _ _ _ r h => by simp [haywainlaw12_LeaseSafe.l0] at h⟩
  | k + 1 => by
    obtain ⟨ih0, ih1, ih2, ih3, ih4, ih5⟩ := haywainlaw12_LeaseSafe.mono_l k
    refine ⟨?_, ?_, ?_, ?_, ?_, ?_⟩
    · intro y0 y1 y2 y3 y4 y5
      unfold haywainlaw12_LeaseSafe.j0
      repeat' first
      | (with_reducible exact ih0 _ _ _ _ _ _)
      | (with_reducible exact ih1 _ _ _ _ _ _ _)
      | (with_reducible exact ih2 _ _ _ _ _)
      | (with_reducible exact ih3 _ _ _ _ _ _)
      | (with_reducible exact ih4 _ _ _ _ _ _ _)
      | (with_reducible exact ih5 _ _ _ _ _ _ _)
      | (with_reducible exact haywainlaw12_knows.mono _)
      | (with_reducible exact lease_Free.mono _ _ _)
      | (with_reducible exact lease_Until.mono _ _ _)
      | (with_reducible exact LeO.refl _)
      | (with_reducible exact LeO.none _)
      | (with_reducible refine LeO.ite ?_ ?_)
      | (with_reducible refine LeO.bind ?_ (fun _ => ?_))
      | exact ih0 _ _ _ _ _ _
      | exact ih1 _ _ _ _ _ _ _
      | exact ih2 _ _ _ _ _
      | exact ih3 _ _ _ _ _ _
      | exact ih4 _ _ _ _ _ _ _
      | exact ih5 _ _ _ _ _ _ _
      | exact haywainlaw12_knows.mono _
      | exact lease_Free.mono _ _ _
      | exact lease_Until.mono _ _ _
      | exact LeO.none _
      | refine LeO.ite ?_ ?_
      | refine LeO.bind ?_ (fun _ => ?_)
    · intro y0 y1 y2 y3 y4 y5 y6
      unfold haywainlaw12_LeaseSafe.j1
      repeat' first
      | (with_reducible exact ih0 _ _ _ _ _ _)
      | (with_reducible exact ih1 _ _ _ _ _ _ _)
      | (with_reducible exact ih2 _ _ _ _ _)
      | (with_reducible exact ih3 _ _ _ _ _ _)
      | (with_reducible exact ih4 _ _ _ _ _ _ _)
      | (with_reducible exact ih5 _ _ _ _ _ _ _)
      | (with_reducible exact haywainlaw12_knows.mono _)
      | (with_reducible exact lease_Free.mono _ _ _)
      | (with_reducible exact lease_Until.mono _ _ _)
      | (with_reducible exact LeO.refl _)
      | (with_reducible exact LeO.none _)
      | (with_reducible refine LeO.ite ?_ ?_)
      | (with_reducible refine LeO.bind ?_ (fun _ => ?_))
      | exact ih0 _ _ _ _ _ _
      | exact ih1 _ _ _ _ _ _ _
      | exact ih2 _ _ _ _ _
      | exact ih3 _ _ _ _ _ _
      | exact ih4 _ _ _ _ _ _ _
      | exact ih5 _ _ _ _ _ _ _
      | exact haywainlaw12_knows.mono _
      | exact lease_Free.mono _ _ _
      | exact lease_Until.mono _ _ _
      | exact LeO.none _
      | refine LeO.ite ?_ ?_
      | refine LeO.bind ?_ (fun _ => ?_)
    · intro y0 y1 y2 y3 y4
      unfold haywainlaw12_LeaseSafe.j3
      repeat' first
      | (with_reducible exact ih0 _ _ _ _ _ _)
      | (with_reducible exact ih1 _ _ _ _ _ _ _)
      | (with_reducible exact ih2 _ _ _ _ _)
      | (with_reducible exact ih3 _ _ _ _ _ _)
      | (with_reducible exact ih4 _ _ _ _ _ _ _)
      | (with_reducible exact ih5 _ _ _ _ _ _ _)
      | (with_reducible exact haywainlaw12_knows.mono _)
      | (with_reducible exact lease_Free.mono _ _ _)
      | (with_reducible exact lease_Until.mono _ _ _)
      | (with_reducible exact LeO.refl _)
      | (with_reducible exact LeO.none _)
      | (with_reducible refine LeO.ite ?_ ?_)
      | (with_reducible refine LeO.bind ?_ (fun _ => ?_))
      | exact ih0 _ _ _ _ _ _
      | exact ih1 _ _ _ _ _ _ _
      | exact ih2 _ _ _ _ _
      | exact ih3 _ _ _ _ _ _
      | exact ih4 _ _ _ _ _ _ _
      | exact ih5 _ _ _ _ _ _ _
      | exact haywainlaw12_knows.mono _
      | exact lease_Free.mono _ _ _
      | exact lease_Until.mono _ _ _
      | exact LeO.none _
      | refine LeO.ite ?_ ?_
      | refine LeO.bind ?_ (fun _ => ?_)
    · intro y0 y1 y2 y3 y4 y5
      unfold haywainlaw12_LeaseSafe.l1
      repeat' first
      | (with_reducible exact ih0 _ _ _ _ _ _)
      | (with_reducible exact ih1 _ _ _ _ _ _ _)
      | (with_reducible exact ih2 _ _ _ _ _)
      | (with_reducible exact ih3 _ _ _ _ _ _)
      | (with_reducible exact ih4 _ _ _ _ _ _ _)
      | (with_reducible exact ih5 _ _ _ _ _ _ _)
      | (with_reducible exact haywainlaw12_knows.mono _)
      | (with_reducible exact lease_Free.mono _ _ _)
      | (with_reducible exact lease_Until.mono _ _ _)
      | (with_reducible exact LeO.refl _)
      | (with_reducible exact LeO.none _)
      | (with_reducible refine LeO.ite ?_ ?_)
      | (with_reducible refine LeO.bind ?_ (fun _ => ?_))
      | exact ih0 _ _ _ _ _ _
      | exact ih1 _ _ _ _ _ _ _
      | exact ih2 _ _ _ _ _
      | exact ih3 _ _ _ _ _ _
      | exact ih4 _ _ _ _ _ _ _
      | exact ih5 _ _ _ _ _ _ _
      | exact haywainlaw12_knows.mono _
      | exact lease_Free.mono _ _ _
      | exact lease_Until.mono _ _ _
      | exact LeO.none _
      | refine LeO.ite ?_ ?_
      | refine LeO.bind ?_ (fun _ => ?_)
    · intro y0 y1 y2 y3 y4 y5 y6
      unfold haywainlaw12_LeaseSafe.j5
      repeat' first
      | (with_reducible exact ih0 _ _ _ _ _ _)
      | (with_reducible exact ih1 _ _ _ _ _ _ _)
      | (with_reducible exact ih2 _ _ _ _ _)
      | (with_reducible exact ih3 _ _ _ _ _ _)
      | (with_reducible exact ih4 _ _ _ _ _ _ _)
      | (with_reducible exact ih5 _ _ _ _ _ _ _)
      | (with_reducible exact haywainlaw12_knows.mono _)
      | (with_reducible exact lease_Free.mono _ _ _)
      | (with_reducible exact lease_Until.mono _ _ _)
      | (with_reducible exact LeO.refl _)
      | (with_reducible exact LeO.none _)
      | (with_reducible refine LeO.ite ?_ ?_)
      | (with_reducible refine LeO.bind ?_ (fun _ => ?_))
      | exact ih0 _ _ _ _ _ _
      | exact ih1 _ _ _ _ _ _ _
      | exact ih2 _ _ _ _ _
      | exact ih3 _ _ _ _ _ _
      | exact ih4 _ _ _ _ _ _ _
      | exact ih5 _ _ _ _ _ _ _
      | exact haywainlaw12_knows.mono _
      | exact lease_Free.mono _ _ _
      | exact lease_Until.mono _ _ _
      | exact LeO.none _
      | refine LeO.ite ?_ ?_
      | refine LeO.bind ?_ (fun _ => ?_)
    · intro y0 y1 y2 y3 y4 y5 y6
      unfold haywainlaw12_LeaseSafe.l0
      repeat' first
      | (with_reducible exact ih0 _ _ _ _ _ _)
      | (with_reducible exact ih1 _ _ _ _ _ _ _)
      | (with_reducible exact ih2 _ _ _ _ _)
      | (with_reducible exact ih3 _ _ _ _ _ _)
      | (with_reducible exact ih4 _ _ _ _ _ _ _)
      | (with_reducible exact ih5 _ _ _ _ _ _ _)
      | (with_reducible exact haywainlaw12_knows.mono _)
      | (with_reducible exact lease_Free.mono _ _ _)
      | (with_reducible exact lease_Until.mono _ _ _)
      | (with_reducible exact LeO.refl _)
      | (with_reducible exact LeO.none _)
      | (with_reducible refine LeO.ite ?_ ?_)
      | (with_reducible refine LeO.bind ?_ (fun _ => ?_))
      | exact ih0 _ _ _ _ _ _
      | exact ih1 _ _ _ _ _ _ _
      | exact ih2 _ _ _ _ _
      | exact ih3 _ _ _ _ _ _
      | exact ih4 _ _ _ _ _ _ _
      | exact ih5 _ _ _ _ _ _ _
      | exact haywainlaw12_knows.mono _
      | exact lease_Free.mono _ _ _
      | exact lease_Until.mono _ _ _
      | exact LeO.none _
      | refine LeO.ite ?_ ?_
      | refine LeO.bind ?_ (fun _ => ?_)
theorem haywainlaw12_LeaseSafe.mono : ∀ a0 a1 a2 a3 a4 k, LeO (haywainlaw12_LeaseSafe.f k a0 a1 a2 a3 a4) (haywainlaw12_LeaseSafe.f (k + 1) a0 a1 a2 a3 a4) := by
  intro a0 a1 a2 a3 a4 k
  obtain ⟨ih0, ih1, ih2, ih3, ih4, ih5⟩ := haywainlaw12_LeaseSafe.mono_l k
  unfold haywainlaw12_LeaseSafe.f
  repeat' first
      | (with_reducible exact ih0 _ _ _ _ _ _)
      | (with_reducible exact ih1 _ _ _ _ _ _ _)
      | (with_reducible exact ih2 _ _ _ _ _)
      | (with_reducible exact ih3 _ _ _ _ _ _)
      | (with_reducible exact ih4 _ _ _ _ _ _ _)
      | (with_reducible exact ih5 _ _ _ _ _ _ _)
      | (with_reducible exact haywainlaw12_knows.mono _)
      | (with_reducible exact lease_Free.mono _ _ _)
      | (with_reducible exact lease_Until.mono _ _ _)
      | (with_reducible exact LeO.refl _)
      | (with_reducible exact LeO.none _)
      | (with_reducible refine LeO.ite ?_ ?_)
      | (with_reducible refine LeO.bind ?_ (fun _ => ?_))
      | exact ih0 _ _ _ _ _ _
      | exact ih1 _ _ _ _ _ _ _
      | exact ih2 _ _ _ _ _
      | exact ih3 _ _ _ _ _ _
      | exact ih4 _ _ _ _ _ _ _
      | exact ih5 _ _ _ _ _ _ _
      | exact haywainlaw12_knows.mono _
      | exact lease_Free.mono _ _ _
      | exact lease_Until.mono _ _ _
      | exact LeO.none _
      | refine LeO.ite ?_ ?_
      | refine LeO.bind ?_ (fun _ => ?_)
set_option maxHeartbeats 8000000 in
set_option maxRecDepth 100000 in
theorem haywainlaw12_LeaseSafe.calls (k : Nat) (a0 : Int) (a1 : Int) (a2 : Int) (A3 : Option Addr) (c3 : Nat) (l3 : List Int) (A4 : Option Addr) (c4 : Nat) (l4 : List Int) (r : Bool) (w : World) (hr3 : Kd.C (Kd.int .u8) w A3 l3.length l3) (hc3 : l3.length ≤ c3) (hr4 : Kd.C (Kd.int .u8) w A4 l4.length l4) (hc4 : l4.length ≤ c4) (h : haywainlaw12_LeaseSafe.f k a0 a1 a2 l3 l4 = some r) :
    Calls Try.prog 5 #[.int .i64 a0, .int .i64 a1, .int .i64 a2, .slice A3 l3.length c3, .slice A4 l4.length c4] w fun e w' => e = .returned (.bool r) ∧ Below w.heap.size w w' := by
  have HR3 := Aside0.mk hr3
  have HC3 := Aside0.mk hc3
  clear hr3 hc3
  have HR4 := Aside0.mk hr4
  have HC4 := Aside0.mk hc4
  clear hr4 hc4
  have HB := Aside0.mk (Below.refl w.heap.size w)
  have H : (if a0 < 0 then (haywainlaw12_LeaseSafe.j0 k a0 a1 a2 l3 l4 true) else (if a0 > 1073741824 then (haywainlaw12_LeaseSafe.j0 k a0 a1 a2 l3 l4 true) else (if a1 < 0 then (haywainlaw12_LeaseSafe.j0 k a0 a1 a2 l3 l4 true) else (if a1 > 1073741824 then (haywainlaw12_LeaseSafe.j0 k a0 a1 a2 l3 l4 true) else (if a2 < 1 then (haywainlaw12_LeaseSafe.j0 k a0 a1 a2 l3 l4 true) else (haywainlaw12_LeaseSafe.j0 k a0 a1 a2 l3 l4 (decide (a2 > 60)))))))) = some r := h
  clear h
  have HC6 := Aside0.mk H
  clear H
  go_enter Try.func5, Try.ntmps5
  go_upto_region 1 with (fail)
  go_cut [41] (fun v41 wc => ∃ (kq : Nat) (x41_5 : Bool), v41 = .bool x41_5 ∧ Aside0 (haywainlaw12_LeaseSafe.j0 kq a0 a1 a2 l3 l4 x41_5 = some r) ∧ Aside0 (kq ≤ k) ∧ Aside0 (Below w.heap.size w wc))
  case first =>
    have H := HC6.out
    clear HC6
    by_cases c7 : a0 < 0
    · rw [if_pos c7] at H
      have c7b0 : decide (a0 < 0) = true := decide_eq_true c7
      clear c7
      (first | rw [c7b0] | (simp only [i64_w, i32_w]; rw [c7b0]) | skip)
      have H' := Aside0.mk H
      clear H
      go_wp2
      go_meet
      case rel => exact ⟨_, (true), (by first | rfl | (simp; done) | (simp [*]; done)), H', ⟨by first | omega | exact Nat.le_refl _⟩, ⟨by repeat (first | (with_reducible first | exact HB.out | apply below_alloc | apply pw_below_drewN | apply below_drew1) | exact HB.out)⟩⟩
    · rw [if_neg c7] at H
      have c7b0 : decide (a0 < 0) = false := decide_eq_false c7
      clear c7
      (first | rw [c7b0] | (simp only [i64_w, i32_w]; rw [c7b0]) | skip)
      by_cases c8 : a0 > 1073741824
      · rw [if_pos c8] at H
        have c8b0 : decide (1073741824 < a0) = true := decide_eq_true c8
        clear c8
        have H' := Aside0.mk H
        clear H
        go_wp2
        go_meet
        case rel => exact ⟨_, (true), (by first | rfl | (simp; done) | (simp [*]; done)), H', ⟨by first | omega | exact Nat.le_refl _⟩, ⟨by repeat (first | (with_reducible first | exact HB.out | apply below_alloc | apply pw_below_drewN | apply below_drew1) | exact HB.out)⟩⟩
      · rw [if_neg c8] at H
        have c8b0 : decide (1073741824 < a0) = false := decide_eq_false c8
        clear c8
        by_cases c9 : a1 < 0
        · rw [if_pos c9] at H
          have c9b0 : decide (a1 < 0) = true := decide_eq_true c9
          clear c9
          have H' := Aside0.mk H
          clear H
          go_wp2
          go_meet
          case rel => exact ⟨_, (true), (by first | rfl | (simp; done) | (simp [*]; done)), H', ⟨by first | omega | exact Nat.le_refl _⟩, ⟨by repeat (first | (with_reducible first | exact HB.out | apply below_alloc | apply pw_below_drewN | apply below_drew1) | exact HB.out)⟩⟩
        · rw [if_neg c9] at H
          have c9b0 : decide (a1 < 0) = false := decide_eq_false c9
          clear c9
          by_cases c10 : a1 > 1073741824
          · rw [if_pos c10] at H
            have c10b0 : decide (1073741824 < a1) = true := decide_eq_true c10
            clear c10
            have H' := Aside0.mk H
            clear H
            go_wp2
            go_meet
            case rel => exact ⟨_, (true), (by first | rfl | (simp; done) | (simp [*]; done)), H', ⟨by first | omega | exact Nat.le_refl _⟩, ⟨by repeat (first | (with_reducible first | exact HB.out | apply below_alloc | apply pw_below_drewN | apply below_drew1) | exact HB.out)⟩⟩
          · rw [if_neg c10] at H
            have c10b0 : decide (1073741824 < a1) = false := decide_eq_false c10
            clear c10
            by_cases c11 : a2 < 1
            · rw [if_pos c11] at H
              have c11b0 : decide (a2 < 1) = true := decide_eq_true c11
              clear c11
              have H' := Aside0.mk H
              clear H
              go_wp2
              go_meet
              case rel => exact ⟨_, (true), (by first | rfl | (simp; done) | (simp [*]; done)), H', ⟨by first | omega | exact Nat.le_refl _⟩, ⟨by repeat (first | (with_reducible first | exact HB.out | apply below_alloc | apply pw_below_drewN | apply below_drew1) | exact HB.out)⟩⟩
            · rw [if_neg c11] at H
              have c11b0 : decide (a2 < 1) = false := decide_eq_false c11
              clear c11
              have H' := Aside0.mk H
              clear H
              go_wp2
              go_meet
              case rel => exact ⟨_, (decide (a2 > 60)), (by first | rfl | (simp; done) | (simp [*]; done)), H', ⟨by first | omega | exact Nat.le_refl _⟩, ⟨by repeat (first | (with_reducible first | exact HB.out | apply below_alloc | apply pw_below_drewN | apply below_drew1) | exact HB.out)⟩⟩
  case rest =>
    clear HC6
    try clear c1
    try clear p2
    try clear c3
    try clear c4
    try clear c5
    try clear c7
    try clear c7b0
    try clear c8
    try clear c8b0
    try clear c9
    try clear c9b0
    try clear c10
    try clear c10b0
    try clear c11
    try clear c11b0
    obtain ⟨kq, x41_5, rfl, HA, HJ5, HB⟩ := hcut
    cases kq with
    | zero => exact absurd HA.out (by simp [haywainlaw12_LeaseSafe.j0])
    | succ kj5 =>
      have H := HA.out
      clear HA
      simp only [haywainlaw12_LeaseSafe.j0] at H
      by_cases c12 : x41_5 = true
      · subst c12
        have H1 : ((haywainlaw12_knows.f kj5).bind fun t124 => (some t124)) = some r := by rw [if_pos rfl] at H; exact H
        clear H
        have H := H1
        clear H1
        replace H := Option.bind_eq_some_iff.mp H
        obtain ⟨t124, A130, H⟩ := H
        replace H : (some t124) = some r := H
        have A13 := Aside0.mk A130
        clear A130
        obtain rfl := Option.some.inj H
        go_wp2_with (first | ((with_reducible refine gate_callee (f := 13) rfl ?_); refine goesL_ (some 42) rfl rfl Try.func13 (by kernel_rfl) rfl #[] rfl (by (try simp only [List.map_toArray, List.map_cons, List.map_nil]); first | done | rfl | (simp only [List.length_drop, List.length_take]; rfl)) ?_; (with_reducible refine (haywainlaw12_knows.calls kj5  t124 _ A13.out).mono ?_); rintro e w14 ⟨rfl, hb⟩; refine ⟨_, rfl, ?_⟩; have n0_ := Aside0.mk (below_step (by repeat (first | (with_reducible first | exact HB.out | apply below_alloc | apply pw_below_drewN | apply below_drew1) | exact HB.out)) hb); clear HB; have HB := n0_; clear n0_; (try clear hb); (try clear hb2); (try clear hk); (try clear hi)))
        go_ret
        exact ⟨by first | rfl | (simp [errW_none, errW_some] <;> rfl) | (simp [*, errW_none, errW_some] <;> rfl), by repeat (first | (with_reducible first | exact HB.out | apply below_alloc | apply pw_below_drewN | apply below_drew1) | exact HB.out)⟩
      · replace c12 := Bool.eq_false_iff.mpr c12
        subst c12
        have H1 : ((lease_Until.f kj5 a0 a2).bind fun bt125 => ((lease_Free.f kj5 a1 a2).bind fun bt127 => (if bt125.2 = 0 then (haywainlaw12_LeaseSafe.j1 kj5 a0 a1 l3 l4 bt125.1 bt127.1 (bt127.2 != 0)) else (haywainlaw12_LeaseSafe.j1 kj5 a0 a1 l3 l4 bt125.1 bt127.1 true)))) = some r := by rw [if_neg (show ¬ (false = true) by decide)] at H; exact H
        clear H
        have H := H1
        clear H1
        replace H := Option.bind_eq_some_iff.mp H
        obtain ⟨⟨t125, t126⟩, A150, H⟩ := H
        replace H : ((lease_Free.f kj5 a1 a2).bind fun bt127 => (if t126 = 0 then (haywainlaw12_LeaseSafe.j1 kj5 a0 a1 l3 l4 t125 bt127.1 (bt127.2 != 0)) else (haywainlaw12_LeaseSafe.j1 kj5 a0 a1 l3 l4 t125 bt127.1 true))) = some r := H
        have A15 := Aside0.mk A150
        clear A150
        replace H := Option.bind_eq_some_iff.mp H
        obtain ⟨⟨t127, t128⟩, A160, H⟩ := H
        replace H : (if t126 = 0 then (haywainlaw12_LeaseSafe.j1 kj5 a0 a1 l3 l4 t125 t127 (t128 != 0)) else (haywainlaw12_LeaseSafe.j1 kj5 a0 a1 l3 l4 t125 t127 true)) = some r := H
        have A16 := Aside0.mk A160
        clear A160
        have HC17 := Aside0.mk H
        clear H
        go_upto_region 5 with (first | ((with_reducible refine gate_callee (f := 9) rfl ?_); refine goesL_ (some 46) rfl rfl Try.func9 (by kernel_rfl) rfl #[.int .i64 a0, .int .i64 a2] rfl (by (try simp only [List.map_toArray, List.map_cons, List.map_nil]); first | done | rfl | (simp only [List.length_drop, List.length_take]; rfl)) ?_; (with_reducible refine (lease_Until.calls kj5 a0 a2 t125 t126 _ A15.out).mono ?_); rintro e w18 ⟨rfl, hb⟩; refine ⟨_, rfl, ?_⟩; have n0_ := Aside0.mk (below_step (by repeat (first | (with_reducible first | exact HB.out | apply below_alloc | apply pw_below_drewN | apply below_drew1) | exact HB.out)) hb); clear HB; have HB := n0_; clear n0_; (try clear hb); (try clear hb2); (try clear hk); (try clear hi)) | ((with_reducible refine gate_callee (f := 11) rfl ?_); refine goesL_ (some 52) rfl rfl Try.func11 (by kernel_rfl) rfl #[.int .i64 a1, .int .i64 a2] rfl (by (try simp only [List.map_toArray, List.map_cons, List.map_nil]); first | done | rfl | (simp only [List.length_drop, List.length_take]; rfl)) ?_; (with_reducible refine (lease_Free.calls kj5 a1 a2 t127 t128 _ A16.out).mono ?_); rintro e w19 ⟨rfl, hb⟩; refine ⟨_, rfl, ?_⟩; have n0_ := Aside0.mk (below_step (by repeat (first | (with_reducible first | exact HB.out | apply below_alloc | apply pw_below_drewN | apply below_drew1) | exact HB.out)) hb); clear HB; have HB := n0_; clear n0_; (try clear hb); (try clear hb2); (try clear hk); (try clear hi)))
        (try simp only [Act.put, List.setIfInBounds_toArray, List.set_cons_zero, List.set_cons_succ])
        go_cut [60] (fun v60 wc => ∃ (kq : Nat) (x60_16 : Bool), v60 = .bool x60_16 ∧ Aside0 (haywainlaw12_LeaseSafe.j1 kq a0 a1 l3 l4 t125 t127 x60_16 = some r) ∧ Aside0 (kq ≤ kj5) ∧ Aside0 (Below w.heap.size w wc))
        case first =>
          have H := HC17.out
          clear HC17
          by_cases c20 : t126 = 0
          · rw [if_pos c20] at H
            have c20b0 : (t126 == 0) = true := beq_iff_eq.mpr c20
            have c20b1 : (t126 != 0) = false := bne_eq_false_iff_eq.mpr c20
            clear c20
            (first | rw [c20b0] | (simp only [i64_w, i32_w]; rw [c20b0]) | skip)
            have H' := Aside0.mk H
            clear H
            go_wp2
            go_meet
            case rel => exact ⟨_, ((t128 != 0)), (by first | rfl | (simp; done) | (simp [*]; done)), H', ⟨by have := HJ5.out; first | omega | exact Nat.le_refl _⟩, ⟨by repeat (first | (with_reducible first | exact HB.out | apply below_alloc | apply pw_below_drewN | apply below_drew1) | exact HB.out)⟩⟩
          · rw [if_neg c20] at H
            have c20b0 : (t126 == 0) = false := beq_eq_false_iff_ne.mpr c20
            have c20b1 : (t126 != 0) = true := bne_iff_ne.mpr c20
            (first | rw [c20b0] | (simp only [i64_w, i32_w]; rw [c20b0]) | skip)
            have H' := Aside0.mk H
            clear H
            go_wp2
            go_meet
            case rel => exact ⟨_, (true), (by first | rfl | (simp; done) | (simp [*]; done)), H', ⟨by have := HJ5.out; first | omega | exact Nat.le_refl _⟩, ⟨by repeat (first | (with_reducible first | exact HB.out | apply below_alloc | apply pw_below_drewN | apply below_drew1) | exact HB.out)⟩⟩
        case rest =>
          clear HC17
          try clear c1
          try clear c2
          try clear p2
          try clear c3
          try clear c4
          try clear c5
          try clear c7
          try clear c7b0
          try clear c8
          try clear c8b0
          try clear c9
          try clear c9b0
          try clear c10
          try clear c10b0
          try clear c11
          try clear c11b0
          try clear c12
          try clear c13
          try clear c20
          try clear c20b0
          try clear c20b1
          try clear p2
          obtain ⟨kq, x60_16, rfl, HA, HJ16, HB⟩ := hcut
          cases kq with
          | zero => exact absurd HA.out (by simp [haywainlaw12_LeaseSafe.j1])
          | succ kj16 =>
            have H := HA.out
            clear HA
            simp only [haywainlaw12_LeaseSafe.j1] at H
            by_cases c21 : x60_16 = true
            · subst c21
              have H1 : (some false) = some r := by rw [if_pos rfl] at H; exact H
              clear H
              have H := H1
              clear H1
              obtain rfl := Option.some.inj H
              go_wp2
              go_ret
              exact ⟨by first | rfl | (simp [errW_none, errW_some] <;> rfl) | (simp [*, errW_none, errW_some] <;> rfl), by repeat (first | (with_reducible first | exact HB.out | apply below_alloc | apply pw_below_drewN | apply below_drew1) | exact HB.out)⟩
            · replace c21 := Bool.eq_false_iff.mpr c21
              subst c21
              have H1 : (haywainlaw12_LeaseSafe.l0 kj16 l3 l4 t125 t127 a0 a1 0) = some r := by rw [if_neg (show ¬ (false = true) by decide)] at H; exact H
              clear H
              have H := H1
              clear H1
              have HC22 := Aside0.mk H
              clear H
              go_upto_block 0 with (fail)
              go_cut [15] (fun v15 wc => ∃ (kq : Nat) (x15_21 : Int), v15 = .int .i64 x15_21 ∧ Aside0 (haywainlaw12_LeaseSafe.j3 kq l4 t125 t127 x15_21 a1 = some r) ∧ Aside0 (kq ≤ kj16) ∧ Aside0 (Below w.heap.size w wc))
              case first =>
                have H := HC22.out
                clear HC22
                have H' := Aside0.mk H
                clear H
                go_wp2
                go_loopg [15, 17] kj16 (fun kq v15 v17 w' => ∃ (x15_3 : Int) (x17_3 : Int), v15 = .int .i64 x15_3 ∧ v17 = .int .i64 x17_3 ∧ Aside0 (haywainlaw12_LeaseSafe.l0 kq l3 l4 t125 t127 x15_3 a1 x17_3 = some r) ∧ Aside0 (kq ≤ kj16) ∧ Aside0 (Below w.heap.size w w'))
                case atStart => exact ⟨(a0), (0), (by first | rfl | (simp; done) | (simp [*]; done)), (by first | rfl | (simp; done) | (simp [*]; done)), H', ⟨Nat.le_refl _⟩, ⟨by repeat (first | (with_reducible first | exact HB.out | apply below_alloc | apply pw_below_drewN | apply below_drew1) | exact HB.out)⟩⟩
                case round =>
                  clear H'
                  try clear c1
                  try clear c2
                  try clear p2
                  try clear c3
                  try clear c4
                  try clear c5
                  try clear c7
                  try clear c7b0
                  try clear c8
                  try clear c8b0
                  try clear c9
                  try clear c9b0
                  try clear c10
                  try clear c10b0
                  try clear c11
                  try clear c11b0
                  try clear c12
                  try clear c13
                  try clear c20
                  try clear c20b0
                  try clear c20b1
                  try clear c21
                  try clear p2
                  obtain ⟨x15_3, x17_3, rfl, rfl, HA, HK3, HB⟩ := hrel
                  cases gk with
                  | zero => exact absurd HA.out (by simp [haywainlaw12_LeaseSafe.l0])
                  | succ k3 =>
                    have H := HA.out
                    clear HA
                    simp only [haywainlaw12_LeaseSafe.l0] at H
                    by_cases c23 : x17_3 < (l3.length : Int)
                    · rw [if_pos c23] at H
                      have c23b0 : decide (x17_3 < (l3.length : Int)) = true := decide_eq_true c23
                      clear c23
                      (first | rw [c23b0] | (simp only [i64_w, i32_w]; rw [c23b0]) | skip)
                      by_cases c24 : x17_3 < 50
                      · rw [if_pos c24] at H
                        have c24b0 : decide (x17_3 < 50) = true := decide_eq_true c24
                        clear c24
                        by_cases c25 : 0 ≤ x17_3
                        · rw [if_pos c25] at H
                          have c25b0 : decide (0 ≤ x17_3) = true := decide_eq_true c25
                          clear c25
                          have H' := Aside0.mk H
                          clear H
                          have p129 : 0 ≤ (x17_3 : Int) := of_decide_eq_true (by first | (with_reducible assumption) | assumption)
                          have q129 : x17_3 < (l3.length : Int) := of_decide_eq_true (by first | (with_reducible assumption) | assumption)
                          obtain ⟨ad129, e129, hx129_0⟩ := Kd.at_int HR3.out x17_3 p129 q129
                          cases e129
                          replace hx129_0 := (HB.out.cell (World.block_lt_of_cell? w _ hx129_0)).trans hx129_0
                          replace p129 := eq_true p129
                          replace q129 := eq_true q129
                          go_wp2
                          go_roundg k3
                          case measure => have := HJ5.out; have := HJ16.out; have := HK3.out; omega
                          case rel => exact ⟨(wrap64 ((wrap64 (x15_3 + 7)) + (wrap64 (Int.tmod (rd l3 x17_3) 3)))), (wrap64 (x17_3 + 1)), (by first | rfl | (simp; done) | (simp [*]; done)), (by first | rfl | (simp; done) | (simp [*]; done)), H', ⟨by have := HJ5.out; have := HJ16.out; have := HK3.out; omega⟩, ⟨by repeat (first | (with_reducible first | exact HB.out | apply below_alloc | apply pw_below_drewN | apply below_drew1) | exact HB.out)⟩⟩
                        · rw [if_neg c25] at H
                          exact absurd H (by simp)
                      · rw [if_neg c24] at H
                        have c24b0 : decide (x17_3 < 50) = false := decide_eq_false c24
                        clear c24
                        have H' := Aside0.mk H
                        clear H
                        go_wp2
                        go_meet
                        case rel => exact ⟨_, (x15_3), (by first | rfl | (simp; done) | (simp [*]; done)), H', ⟨by have := HJ5.out; have := HJ16.out; have := HK3.out; first | omega | exact Nat.le_refl _⟩, ⟨by repeat (first | (with_reducible first | exact HB.out | apply below_alloc | apply pw_below_drewN | apply below_drew1) | exact HB.out)⟩⟩
                    · rw [if_neg c23] at H
                      have c23b0 : decide (x17_3 < (l3.length : Int)) = false := decide_eq_false c23
                      clear c23
                      (first | rw [c23b0] | (simp only [i64_w, i32_w]; rw [c23b0]) | skip)
                      have H' := Aside0.mk H
                      clear H
                      go_wp2
                      go_meet
                      case rel => exact ⟨_, (x15_3), (by first | rfl | (simp; done) | (simp [*]; done)), H', ⟨by have := HJ5.out; have := HJ16.out; have := HK3.out; first | omega | exact Nat.le_refl _⟩, ⟨by repeat (first | (with_reducible first | exact HB.out | apply below_alloc | apply pw_below_drewN | apply below_drew1) | exact HB.out)⟩⟩
              case rest =>
                clear HC22
                try clear c1
                try clear p1
                try clear q1
                try clear hx1
                try clear c2
                try clear p2
                try clear c3
                try clear c4
                try clear c5
                try clear p6
                try clear c7
                try clear c7b0
                try clear c8
                try clear c8b0
                try clear c9
                try clear c9b0
                try clear c10
                try clear c10b0
                try clear c11
                try clear c11b0
                try clear c12
                try clear p12
                try clear q12
                try clear hx12
                try clear c13
                try clear c20
                try clear c20b0
                try clear c20b1
                try clear c21
                try clear c23
                try clear c23b0
                try clear c24
                try clear c24b0
                try clear c25
                try clear c25b0
                try clear hx129_0
                try clear p129
                try clear p2
                try clear q129
                obtain ⟨kq, x15_21, rfl, HA, HJ21, HB⟩ := hcut
                cases kq with
                | zero => exact absurd HA.out (by simp [haywainlaw12_LeaseSafe.j3])
                | succ kj21 =>
                  have H := HA.out
                  clear HA
                  simp only [haywainlaw12_LeaseSafe.j3] at H
                  have H' := Aside0.mk H
                  clear H
                  go_wp2
                  go_loopg [15, 16, 18] kj21 (fun kq v15 v16 v18 w' => ∃ (x15_4 : Int) (x16_4 : Int) (x18_4 : Int), v15 = .int .i64 x15_4 ∧ v16 = .int .i64 x16_4 ∧ v18 = .int .i64 x18_4 ∧ Aside0 (haywainlaw12_LeaseSafe.l1 kq l4 t125 t127 x15_4 x16_4 x18_4 = some r) ∧ Aside0 (kq ≤ kj21) ∧ Aside0 (Below w.heap.size w w'))
                  case atStart => exact ⟨(x15_21), (a1), (0), (by first | rfl | (simp; done) | (simp [*]; done)), (by first | rfl | (simp; done) | (simp [*]; done)), (by first | rfl | (simp; done) | (simp [*]; done)), H', ⟨Nat.le_refl _⟩, ⟨by repeat (first | (with_reducible first | exact HB.out | apply below_alloc | apply pw_below_drewN | apply below_drew1) | exact HB.out)⟩⟩
                  case round =>
                    clear H'
                    try clear c1
                    try clear p1
                    try clear q1
                    try clear hx1
                    try clear c2
                    try clear p2
                    try clear c3
                    try clear c4
                    try clear c5
                    try clear p6
                    try clear c7
                    try clear c7b0
                    try clear c8
                    try clear c8b0
                    try clear c9
                    try clear c9b0
                    try clear c10
                    try clear c10b0
                    try clear c11
                    try clear c11b0
                    try clear c12
                    try clear p12
                    try clear q12
                    try clear hx12
                    try clear c13
                    try clear c20
                    try clear c20b0
                    try clear c20b1
                    try clear c21
                    try clear c23
                    try clear c23b0
                    try clear c24
                    try clear c24b0
                    try clear c25
                    try clear c25b0
                    try clear hx129_0
                    try clear p1
                    try clear p12
                    try clear p129
                    try clear p2
                    try clear p6
                    try clear q1
                    try clear q12
                    try clear q129
                    obtain ⟨x15_4, x16_4, x18_4, rfl, rfl, rfl, HA, HK4, HB⟩ := hrel
                    cases gk with
                    | zero => exact absurd HA.out (by simp [haywainlaw12_LeaseSafe.l1])
                    | succ k4 =>
                      have H := HA.out
                      clear HA
                      simp only [haywainlaw12_LeaseSafe.l1] at H
                      by_cases c26 : x18_4 < 150
                      · rw [if_pos c26] at H
                        have c26b0 : decide (x18_4 < 150) = true := decide_eq_true c26
                        clear c26
                        have HC27 := Aside0.mk H
                        clear H
                        go_upto_region 15 with (fail)
                        go_cut [93] (fun v93 wc => ∃ (kq : Nat) (x93_26 : Bool), v93 = .bool x93_26 ∧ Aside0 (haywainlaw12_LeaseSafe.j5 kq l4 t125 t127 x15_4 x16_4 x18_4 x93_26 = some r) ∧ Aside0 (kq ≤ k4) ∧ Aside0 (Below w.heap.size w wc))
                        case first =>
                          have H := HC27.out
                          clear HC27
                          replace H := Option.bind_eq_some_iff.mp H
                          obtain ⟨t131, A280, H⟩ := H
                          replace H : (if t131 = true then ((lease_Gone.f x16_4 t127).bind fun t132 => (haywainlaw12_LeaseSafe.j5 k4 l4 t125 t127 x15_4 x16_4 x18_4 t132)) else (haywainlaw12_LeaseSafe.j5 k4 l4 t125 t127 x15_4 x16_4 x18_4 false)) = some r := H
                          have A28 := Aside0.mk A280
                          clear A280
                          by_cases c29 : t131 = true
                          · subst c29
                            have H1 : ((lease_Gone.f x16_4 t127).bind fun t132 => (haywainlaw12_LeaseSafe.j5 k4 l4 t125 t127 x15_4 x16_4 x18_4 t132)) = some r := by rw [if_pos rfl] at H; exact H
                            clear H
                            have H := H1
                            clear H1
                            replace H := Option.bind_eq_some_iff.mp H
                            obtain ⟨t132, A300, H⟩ := H
                            replace H : (haywainlaw12_LeaseSafe.j5 k4 l4 t125 t127 x15_4 x16_4 x18_4 t132) = some r := H
                            have A30 := Aside0.mk A300
                            clear A300
                            have H' := Aside0.mk H
                            clear H
                            go_wp2_with (first | ((with_reducible refine gate_callee (f := 14) rfl ?_); refine goesL_ (some 88) rfl rfl Try.func14 (by kernel_rfl) rfl #[.int .i64 x15_4, .int .i64 t125] rfl (by (try simp only [List.map_toArray, List.map_cons, List.map_nil]); first | done | rfl | (simp only [List.length_drop, List.length_take]; rfl)) ?_; (with_reducible refine (lease_Holds.calls x15_4 t125 true _ A28.out).mono ?_); rintro e w' ⟨rfl, ⟨nd, rfl⟩⟩; refine ⟨_, rfl, ?_⟩) | (go_at_call 15; (with_reducible refine (lease_Gone.calls x16_4 t127 t132 _ A30.out).mono ?_); rintro e w' ⟨rfl, ⟨nd, rfl⟩⟩))
                            go_meet
                            case rel => exact ⟨_, (t132), (by first | rfl | (simp; done) | (simp [*]; done)), H', ⟨by have := HJ5.out; have := HJ16.out; have := HJ21.out; have := HK4.out; first | omega | exact Nat.le_refl _⟩, ⟨by repeat (first | (with_reducible first | exact HB.out | apply below_alloc | apply pw_below_drewN | apply below_drew1) | exact HB.out)⟩⟩
                          · replace c29 := Bool.eq_false_iff.mpr c29
                            subst c29
                            have H1 : (haywainlaw12_LeaseSafe.j5 k4 l4 t125 t127 x15_4 x16_4 x18_4 false) = some r := by rw [if_neg (show ¬ (false = true) by decide)] at H; exact H
                            clear H
                            have H := H1
                            clear H1
                            have H' := Aside0.mk H
                            clear H
                            go_wp2_with (first | ((with_reducible refine gate_callee (f := 14) rfl ?_); refine goesL_ (some 88) rfl rfl Try.func14 (by kernel_rfl) rfl #[.int .i64 x15_4, .int .i64 t125] rfl (by (try simp only [List.map_toArray, List.map_cons, List.map_nil]); first | done | rfl | (simp only [List.length_drop, List.length_take]; rfl)) ?_; (with_reducible refine (lease_Holds.calls x15_4 t125 false _ A28.out).mono ?_); rintro e w' ⟨rfl, ⟨nd, rfl⟩⟩; refine ⟨_, rfl, ?_⟩))
                            go_meet
                            case rel => exact ⟨_, (false), (by first | rfl | (simp; done) | (simp [*]; done)), H', ⟨by have := HJ5.out; have := HJ16.out; have := HJ21.out; have := HK4.out; first | omega | exact Nat.le_refl _⟩, ⟨by repeat (first | (with_reducible first | exact HB.out | apply below_alloc | apply pw_below_drewN | apply below_drew1) | exact HB.out)⟩⟩
                        case rest =>
                          clear HC27
                          try clear c1
                          try clear p1
                          try clear q1
                          try clear hx1
                          try clear c2
                          try clear p2
                          try clear c3
                          try clear c4
                          try clear c5
                          try clear p6
                          try clear c7
                          try clear c7b0
                          try clear c8
                          try clear c8b0
                          try clear c9
                          try clear c9b0
                          try clear c10
                          try clear c10b0
                          try clear c11
                          try clear c11b0
                          try clear c12
                          try clear p12
                          try clear q12
                          try clear hx12
                          try clear c13
                          try clear c14
                          try clear c20
                          try clear c20b0
                          try clear c20b1
                          try clear c21
                          try clear c23
                          try clear c23b0
                          try clear c24
                          try clear c24b0
                          try clear c25
                          try clear c25b0
                          try clear c26
                          try clear c26b0
                          try clear c29
                          try clear hx129_0
                          try clear p1
                          try clear p12
                          try clear p129
                          try clear p2
                          try clear p6
                          try clear q1
                          try clear q12
                          try clear q129
                          obtain ⟨kq, x93_26, rfl, HA, HJ26, HB⟩ := hcut
                          cases kq with
                          | zero => exact absurd HA.out (by simp [haywainlaw12_LeaseSafe.j5])
                          | succ kj26 =>
                            have H := HA.out
                            clear HA
                            simp only [haywainlaw12_LeaseSafe.j5] at H
                            by_cases c31 : x93_26 = true
                            · subst c31
                              have H1 : (some false) = some r := by rw [if_pos rfl] at H; exact H
                              clear H
                              have H := H1
                              clear H1
                              obtain rfl := Option.some.inj H
                              go_wp2
                              go_ret
                              exact ⟨by first | rfl | (simp [errW_none, errW_some] <;> rfl) | (simp [*, errW_none, errW_some] <;> rfl), by repeat (first | (with_reducible first | exact HB.out | apply below_alloc | apply pw_below_drewN | apply below_drew1) | exact HB.out)⟩
                            · replace c31 := Bool.eq_false_iff.mpr c31
                              subst c31
                              have H1 : (if x18_4 < (l4.length : Int) then (if 0 ≤ x18_4 then (haywainlaw12_LeaseSafe.l1 kj26 l4 t125 t127 (wrap64 ((wrap64 (x15_4 + 7)) + (Int.tmod (wrap64 (Int.tmod (rd l4 x18_4) 9)) 3))) (wrap64 ((wrap64 (x16_4 + 7)) + (wrap64 (Int.tdiv (wrap64 (Int.tmod (rd l4 x18_4) 9)) 3)))) (wrap64 (x18_4 + 1))) else (none)) else (if ((l4.length : Int) % 2) = 1 then (haywainlaw12_LeaseSafe.l1 kj26 l4 t125 t127 (wrap64 ((wrap64 (x15_4 + 7)) + ((6 : Int) % 3))) (wrap64 ((wrap64 (x16_4 + 7)) + ((6 : Int) / 3))) (wrap64 (x18_4 + 1))) else (haywainlaw12_LeaseSafe.l1 kj26 l4 t125 t127 (wrap64 ((wrap64 (x15_4 + 7)) + ((0 : Int) % 3))) (wrap64 ((wrap64 (x16_4 + 7)) + ((0 : Int) / 3))) (wrap64 (x18_4 + 1))))) = some r := by rw [if_neg (show ¬ (false = true) by decide)] at H; exact H
                              clear H
                              have H := H1
                              clear H1
                              by_cases c32 : x18_4 < (l4.length : Int)
                              · rw [if_pos c32] at H
                                have c32b0 : decide (x18_4 < (l4.length : Int)) = true := decide_eq_true c32
                                clear c32
                                by_cases c33 : 0 ≤ x18_4
                                · rw [if_pos c33] at H
                                  have c33b0 : decide (0 ≤ x18_4) = true := decide_eq_true c33
                                  clear c33
                                  have H' := Aside0.mk H
                                  clear H
                                  have p133 : 0 ≤ (x18_4 : Int) := of_decide_eq_true (by first | (with_reducible assumption) | assumption)
                                  have q133 : x18_4 < (l4.length : Int) := of_decide_eq_true (by first | (with_reducible assumption) | assumption)
                                  obtain ⟨ad133, e133, hx133_0⟩ := Kd.at_int HR4.out x18_4 p133 q133
                                  cases e133
                                  replace hx133_0 := (HB.out.cell (World.block_lt_of_cell? w _ hx133_0)).trans hx133_0
                                  replace p133 := eq_true p133
                                  replace q133 := eq_true q133
                                  go_wp2
                                  go_roundg kj26
                                  case measure => have := HJ5.out; have := HJ16.out; have := HJ21.out; have := HK4.out; have := HJ26.out; omega
                                  case rel => exact ⟨(wrap64 ((wrap64 (x15_4 + 7)) + (Int.tmod (wrap64 (Int.tmod (rd l4 x18_4) 9)) 3))), (wrap64 ((wrap64 (x16_4 + 7)) + (wrap64 (Int.tdiv (wrap64 (Int.tmod (rd l4 x18_4) 9)) 3)))), (wrap64 (x18_4 + 1)), (by first | rfl | (simp; done) | (simp [*]; done)), (by first | rfl | (simp; done) | (simp [*]; done)), (by first | rfl | (simp; done) | (simp [*]; done)), H', ⟨by have := HJ5.out; have := HJ16.out; have := HJ21.out; have := HK4.out; have := HJ26.out; omega⟩, ⟨by repeat (first | (with_reducible first | exact HB.out | apply below_alloc | apply pw_below_drewN | apply below_drew1) | exact HB.out)⟩⟩
                                · rw [if_neg c33] at H
                                  exact absurd H (by simp)
                              · rw [if_neg c32] at H
                                have c32b0 : decide (x18_4 < (l4.length : Int)) = false := decide_eq_false c32
                                clear c32
                                by_cases c34 : ((l4.length : Int) % 2) = 1
                                · rw [if_pos c34] at H
                                  have c34b0 : (((l4.length : Int) % 2) == 1) = true := beq_iff_eq.mpr c34
                                  have c34b1 : (((l4.length : Int) % 2) != 1) = false := bne_eq_false_iff_eq.mpr c34
                                  clear c34
                                  have H' := Aside0.mk H
                                  clear H
                                  go_wp2
                                  go_roundg kj26
                                  case measure => have := HJ5.out; have := HJ16.out; have := HJ21.out; have := HK4.out; have := HJ26.out; omega
                                  case rel => exact ⟨(wrap64 ((wrap64 (x15_4 + 7)) + ((6 : Int) % 3))), (wrap64 ((wrap64 (x16_4 + 7)) + ((6 : Int) / 3))), (wrap64 (x18_4 + 1)), (by first | rfl | (simp; done) | (simp [*]; done)), (by first | rfl | (simp; done) | (simp [*]; done)), (by first | rfl | (simp; done) | (simp [*]; done)), H', ⟨by have := HJ5.out; have := HJ16.out; have := HJ21.out; have := HK4.out; have := HJ26.out; omega⟩, ⟨by repeat (first | (with_reducible first | exact HB.out | apply below_alloc | apply pw_below_drewN | apply below_drew1) | exact HB.out)⟩⟩
                                · rw [if_neg c34] at H
                                  have c34b0 : (((l4.length : Int) % 2) == 1) = false := beq_eq_false_iff_ne.mpr c34
                                  have c34b1 : (((l4.length : Int) % 2) != 1) = true := bne_iff_ne.mpr c34
                                  have H' := Aside0.mk H
                                  clear H
                                  go_wp2
                                  go_roundg kj26
                                  case measure => have := HJ5.out; have := HJ16.out; have := HJ21.out; have := HK4.out; have := HJ26.out; omega
                                  case rel => exact ⟨(wrap64 ((wrap64 (x15_4 + 7)) + ((0 : Int) % 3))), (wrap64 ((wrap64 (x16_4 + 7)) + ((0 : Int) / 3))), (wrap64 (x18_4 + 1)), (by first | rfl | (simp; done) | (simp [*]; done)), (by first | rfl | (simp; done) | (simp [*]; done)), (by first | rfl | (simp; done) | (simp [*]; done)), H', ⟨by have := HJ5.out; have := HJ16.out; have := HJ21.out; have := HK4.out; have := HJ26.out; omega⟩, ⟨by repeat (first | (with_reducible first | exact HB.out | apply below_alloc | apply pw_below_drewN | apply below_drew1) | exact HB.out)⟩⟩
                      · rw [if_neg c26] at H
                        have c26b0 : decide (x18_4 < 150) = false := decide_eq_false c26
                        clear c26
                        replace H := Option.bind_eq_some_iff.mp H
                        obtain ⟨t130, A350, H⟩ := H
                        replace H : (some t130) = some r := H
                        have A35 := Aside0.mk A350
                        clear A350
                        obtain rfl := Option.some.inj H
                        go_wp2_with (first | ((with_reducible refine gate_callee (f := 13) rfl ?_); refine goesL_ (some 118) rfl rfl Try.func13 (by kernel_rfl) rfl #[] rfl (by (try simp only [List.map_toArray, List.map_cons, List.map_nil]); first | done | rfl | (simp only [List.length_drop, List.length_take]; rfl)) ?_; (with_reducible refine (haywainlaw12_knows.calls k4  t130 _ A35.out).mono ?_); rintro e w36 ⟨rfl, hb⟩; refine ⟨_, rfl, ?_⟩; have n0_ := Aside0.mk (below_step (by repeat (first | (with_reducible first | exact HB.out | apply below_alloc | apply pw_below_drewN | apply below_drew1) | exact HB.out)) hb); clear HB; have HB := n0_; clear n0_; (try clear hb); (try clear hb2); (try clear hk); (try clear hi)))
                        go_ret
                        exact ⟨by first | rfl | (simp [errW_none, errW_some] <;> rfl) | (simp [*, errW_none, errW_some] <;> rfl), by repeat (first | (with_reducible first | exact HB.out | apply below_alloc | apply pw_below_drewN | apply below_drew1) | exact HB.out)⟩

/-- THE ONE PURE STATEMENT of haywainlaw12_LeaseSafe: yours. -/
def haywainlaw12_LeaseSafe.Pure : Prop := ∀ (a0 : Int) (a1 : Int) (a2 : Int) (l3 : List Int) (l4 : List Int), (Lit.int .i64 a0).wf = true → (Lit.int .i64 a1).wf = true → (Lit.int .i64 a2).wf = true → l3.length ≤ maxLen → l3.length * 1 ≤ 140737488351232 → (∀ x ∈ l3, (Lit.int .u8 x).wf = true) → l4.length ≤ maxLen → l4.length * 1 ≤ 140737488351232 → (∀ x ∈ l4, (Lit.int .u8 x).wf = true) → ∃ k, haywainlaw12_LeaseSafe.f k a0 a1 a2 l3 l4 = some true
theorem haywainlaw12_LeaseSafe.walk (P : haywainlaw12_LeaseSafe.Pure) (a0 : Int) (a1 : Int) (a2 : Int) (a3 : Option Addr) (len3 cap3 : Nat) (z3 : List Int) (a4 : Option Addr) (len4 cap4 : Nat) (z4 : List Int) (w : World) (w0 : (Lit.int .i64 a0).wf = true) (w1 : (Lit.int .i64 a1).wf = true) (w2 : (Lit.int .i64 a2).wf = true) (w3 : (a3 = none ∧ len3 = 0 ∧ cap3 = 0 ∧ z3 = []) ∨ ∃ x, a3 = some x ∧ len3 ≤ cap3 ∧ cap3 ≤ maxLen ∧ z3.length = cap3 ∧ (∀ i, i < z3.length → w.cell? (x.add i) = some (.int .u8 (z3.getD i 0))) ∧ ∀ n ∈ z3, (Lit.int .u8 n).wf = true) (y3 : len3 * 1 ≤ 140737488351232) (w4 : (a4 = none ∧ len4 = 0 ∧ cap4 = 0 ∧ z4 = []) ∨ ∃ x, a4 = some x ∧ len4 ≤ cap4 ∧ cap4 ≤ maxLen ∧ z4.length = cap4 ∧ (∀ i, i < z4.length → w.cell? (x.add i) = some (.int .u8 (z4.getD i 0))) ∧ ∀ n ∈ z4, (Lit.int .u8 n).wf = true) (y4 : len4 * 1 ≤ 140737488351232) :
    Calls Try.prog 5 #[.int .i64 a0, .int .i64 a1, .int .i64 a2, .slice a3 len3 cap3, .slice a4 len4 cap4] w fun e w' => e = .returned (.bool true) ∧ Below w.heap.size w w' := by
  obtain ⟨l3, rfl, hr3, hm3, hw3, hc3⟩ := ReadsInt.ofRowC w3
  obtain ⟨l4, rfl, hr4, hm4, hw4, hc4⟩ := ReadsInt.ofRowC w4
  obtain ⟨k, h⟩ := P a0 a1 a2 l3 l4 w0 w1 w2 hm3 y3 hw3 hm4 y4 hw4
  refine (haywainlaw12_LeaseSafe.calls k a0 a1 a2 _ _ l3 _ _ l4 true w (Kd.C_of_reads (d := (0 : Int)) (h1 := fun _ => rfl) hr3) hc3 (Kd.C_of_reads (d := (0 : Int)) (h1 := fun _ => rfl) hr4) hc4 h).mono ?_
  rintro e w' ⟨rfl, hd⟩
  exact ⟨rfl, hd⟩

end Go.Proofs.Ytennlpldfjgldaa.PLeaseSafe
