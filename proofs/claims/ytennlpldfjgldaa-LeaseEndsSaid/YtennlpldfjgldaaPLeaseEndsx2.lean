-- PRINTED BY print.sh 35421559b90ae4d0a3588c463048766b98c2df88dd9212a6774a882060cdf62d: not written by this session
import Derived.Test.YtennlpldfjgldaaPLeaseEndsx0
import Derived.Test.YtennlpldfjgldaaPLeaseEndsx1
namespace Go.Proofs.Ytennlpldfjgldaa.PLeaseEnds
open Go.RowKit Go.Proofs.YtennlpldfjgldaaW.PrintWords Go.Proofs.YtennlpldfjgldaaW.PrintLast Go.Proofs.YtennlpldfjgldaaW.PrintMore
attribute [local go_sem] max2_int min2_int max_two min_two max_three min_three max_four min_four   -- for this text's walks alone
set_option linter.unusedVariables false
set_option linter.unusedSimpArgs false

/-! ### haywainlaw12_LeaseEnds: function 6 -/
mutual
def haywainlaw12_LeaseEnds.j0 : Nat → Int → Int → Int → List Int → Bool → Option (Bool)
  | 0, _, _, _, _, _ => none
  | k + 1, x0, x1, x2, x3, x38 => if x38 = true then ((haywainlaw12_knows.f k).bind fun t124 => (some t124)) else ((lease_Until.f k x0 x2).bind fun bt125 => ((lease_Free.f k x1 x2).bind fun bt127 => (haywainlaw12_LeaseEnds.l0 k x2 x3 bt125.1 bt125.2 bt127.1 bt127.2 x0 x1 0)))
def haywainlaw12_LeaseEnds.l0 : Nat → Int → List Int → Int → Int → Int → Int → Int → Int → Int → Option (Bool)
  | 0, _, _, _, _, _, _, _, _, _ => none
  | k + 1, x2, x3, x9, x10, x11, x12, x13, x14, x15 => if x15 < (wrap64 (2 * x2)) then (if x15 < (x3.length : Int) then (if 0 ≤ x15 then (haywainlaw12_LeaseEnds.l0 k x2 x3 x9 x10 x11 x12 (wrap64 ((wrap64 (x13 + 7)) + (Int.tmod (wrap64 (Int.tmod (rd x3 x15) 9)) 3))) (wrap64 ((wrap64 (x14 + 7)) + (wrap64 (Int.tdiv (wrap64 (Int.tmod (rd x3 x15) 9)) 3)))) (wrap64 (x15 + 1))) else (none)) else (haywainlaw12_LeaseEnds.l0 k x2 x3 x9 x10 x11 x12 (wrap64 ((wrap64 (x13 + 7)) + ((0 : Int) % 3))) (wrap64 ((wrap64 (x14 + 7)) + ((0 : Int) / 3))) (wrap64 (x15 + 1)))) else (if x10 = 0 then (if x12 = 0 then ((lease_Holds.f x13 x9).bind fun t130 => (if t130 = true then (some false) else ((lease_Gone.f x14 x11).bind fun t131 => (if t131 = true then ((haywainlaw12_knows.f k).bind fun t132 => (some t132)) else (some false))))) else (some false)) else (some false))
end
def haywainlaw12_LeaseEnds.f (k : Nat) (a0 : Int) (a1 : Int) (a2 : Int) (l3 : List Int) : Option (Bool) := if a0 < 0 then (haywainlaw12_LeaseEnds.j0 k a0 a1 a2 l3 true) else (if a0 > 1073741824 then (haywainlaw12_LeaseEnds.j0 k a0 a1 a2 l3 true) else (if a1 < 0 then (haywainlaw12_LeaseEnds.j0 k a0 a1 a2 l3 true) else (if a1 > 1073741824 then (haywainlaw12_LeaseEnds.j0 k a0 a1 a2 l3 true) else (if a2 < 1 then (haywainlaw12_LeaseEnds.j0 k a0 a1 a2 l3 true) else (haywainlaw12_LeaseEnds.j0 k a0 a1 a2 l3 (decide (a2 > 60)))))))
theorem haywainlaw12_LeaseEnds.mono_l : ∀ k, (∀ y0 y1 y2 y3 y4, LeO (haywainlaw12_LeaseEnds.j0 k y0 y1 y2 y3 y4) (haywainlaw12_LeaseEnds.j0 (k + 1) y0 y1 y2 y3 y4)) ∧ (∀ y0 y1 y2 y3 y4 y5 y6 y7 y8, LeO (haywainlaw12_LeaseEnds.l0 k y0 y1 y2 y3 y4 y5 y6 y7 y8) (haywainlaw12_LeaseEnds.l0 (k + 1) y0 y1 y2 y3 y4 y5 y6 y7 y8))
  | 0 => ⟨fun _ _ _ _ _ r h => by simp [haywainlaw12_LeaseEnds.j0] at h, fun _ _ _ _ _ _ _ _ _ r h => by simp [haywainlaw12_LeaseEnds.l0] at h⟩
  | k + 1 => by
    obtain ⟨ih0, ih1⟩ := haywainlaw12_LeaseEnds.mono_l k
    refine ⟨?_, ?_⟩
    · intro y0 y1 y2 y3 y4
      unfold haywainlaw12_LeaseEnds.j0
      repeat' first
      | (with_reducible exact ih0 _ _ _ _ _)
      | (with_reducible exact ih1 _ _ _ _ _ _ _ _ _)
      | (with_reducible exact haywainlaw12_knows.mono _)
      | (with_reducible exact lease_Free.mono _ _ _)
      | (with_reducible exact lease_Until.mono _ _ _)
      | (with_reducible exact LeO.refl _)
      | (with_reducible exact LeO.none _)
      | (with_reducible refine LeO.ite ?_ ?_)
      | (with_reducible refine LeO.bind ?_ (fun _ => ?_))
      | exact ih0 _ _ _ _ _
      | exact ih1 _ _ _ _ _ _ _ _ _
      | exact haywainlaw12_knows.mono _
      | exact lease_Free.mono _ _ _
      | exact lease_Until.mono _ _ _
      | exact LeO.none _
      | refine LeO.ite ?_ ?_
      | refine LeO.bind ?_ (fun _ => ?_)
    · intro y0 y1 y2 y3 y4 y5 y6 y7 y8
      unfold haywainlaw12_LeaseEnds.l0
      repeat' first
      | (with_reducible exact ih0 _ _ _ _ _)
      | (with_reducible exact ih1 _ _ _ _ _ _ _ _ _)
      | (with_reducible exact haywainlaw12_knows.mono _)
      | (with_reducible exact lease_Free.mono _ _ _)
      | (with_reducible exact lease_Until.mono _ _ _)
      | (with_reducible exact LeO.refl _)
      | (with_reducible exact LeO.none _)
      | (with_reducible refine LeO.ite ?_ ?_)
      | (with_reducible refine LeO.bind ?_ (fun _ => ?_))
      | exact ih0 _ _ _ _ _
      | exact ih1 _ _ _ _ _ _ _ _ _
      | exact haywainlaw12_knows.mono _
      | exact lease_Free.mono _ _ _
      | exact lease_Until.mono _ _ _
      | exact LeO.none _
      | refine LeO.ite ?_ ?_
      | refine LeO.bind ?_ (fun _ => ?_)
theorem haywainlaw12_LeaseEnds.mono : ∀ a0 a1 a2 a3 k, LeO (haywainlaw12_LeaseEnds.f k a0 a1 a2 a3) (haywainlaw12_LeaseEnds.f (k + 1) a0 a1 a2 a3) := by
  intro a0 a1 a2 a3 k
  obtain ⟨ih0, ih1⟩ := haywainlaw12_LeaseEnds.mono_l k
  unfold haywainlaw12_LeaseEnds.f
  repeat' first
      | (with_reducible exact ih0 _ _ _ _ _)
      | (with_reducible exact ih1 _ _ _ _ _ _ _ _ _)
      | (with_reducible exact haywainlaw12_knows.mono _)
      | (with_reducible exact lease_Free.mono _ _ _)
      | (with_reducible exact lease_Until.mono _ _ _)
      | (with_reducible exact LeO.refl _)
      | (with_reducible exact LeO.none _)
      | (with_reducible refine LeO.ite ?_ ?_)
      | (with_reducible refine LeO.bind ?_ (fun _ => ?_))
      | exact ih0 _ _ _ _ _
      | exact ih1 _ _ _ _ _ _ _ _ _
      | exact haywainlaw12_knows.mono _
      | exact lease_Free.mono _ _ _
      | exact lease_Until.mono _ _ _
      | exact LeO.none _
      | refine LeO.ite ?_ ?_
      | refine LeO.bind ?_ (fun _ => ?_)
set_option maxHeartbeats 8000000 in
set_option maxRecDepth 100000 in
theorem haywainlaw12_LeaseEnds.calls (k : Nat) (a0 : Int) (a1 : Int) (a2 : Int) (A3 : Option Addr) (c3 : Nat) (l3 : List Int) (r : Bool) (w : World) (hr3 : Kd.C (Kd.int .u8) w A3 l3.length l3) (hc3 : l3.length ≤ c3) (h : haywainlaw12_LeaseEnds.f k a0 a1 a2 l3 = some r) :
    Calls Try.prog 6 #[.int .i64 a0, .int .i64 a1, .int .i64 a2, .slice A3 l3.length c3] w fun e w' => e = .returned (.bool r) ∧ Below w.heap.size w w' := by
  have HR3 := Aside0.mk hr3
  have HC3 := Aside0.mk hc3
  clear hr3 hc3
  have HB := Aside0.mk (Below.refl w.heap.size w)
  have H : (if a0 < 0 then (haywainlaw12_LeaseEnds.j0 k a0 a1 a2 l3 true) else (if a0 > 1073741824 then (haywainlaw12_LeaseEnds.j0 k a0 a1 a2 l3 true) else (if a1 < 0 then (haywainlaw12_LeaseEnds.j0 k a0 a1 a2 l3 true) else (if a1 > 1073741824 then (haywainlaw12_LeaseEnds.j0 k a0 a1 a2 l3 true) else (if a2 < 1 then (haywainlaw12_LeaseEnds.j0 k a0 a1 a2 l3 true) else (haywainlaw12_LeaseEnds.j0 k a0 a1 a2 l3 (decide (a2 > 60)))))))) = some r := h
  clear h
  have HC5 := Aside0.mk H
  clear H
  go_enter Try.func6, Try.ntmps6
  go_upto_region 1 with (fail)
  go_cut [38] (fun v38 wc => ∃ (kq : Nat) (x38_4 : Bool), v38 = .bool x38_4 ∧ Aside0 (haywainlaw12_LeaseEnds.j0 kq a0 a1 a2 l3 x38_4 = some r) ∧ Aside0 (kq ≤ k) ∧ Aside0 (Below w.heap.size w wc))
  case first =>
    have H := HC5.out
    clear HC5
    by_cases c6 : a0 < 0
    · rw [if_pos c6] at H
      have c6b0 : decide (a0 < 0) = true := decide_eq_true c6
      clear c6
      (first | rw [c6b0] | (simp only [i64_w, i32_w]; rw [c6b0]) | skip)
      have H' := Aside0.mk H
      clear H
      go_wp2
      go_meet
      case rel => exact ⟨_, (true), (by first | rfl | (simp; done) | (simp [*]; done)), H', ⟨by first | omega | exact Nat.le_refl _⟩, ⟨by repeat (first | (with_reducible first | exact HB.out | apply below_alloc | apply pw_below_drewN | apply below_drew1) | exact HB.out)⟩⟩
    · rw [if_neg c6] at H
      have c6b0 : decide (a0 < 0) = false := decide_eq_false c6
      clear c6
      (first | rw [c6b0] | (simp only [i64_w, i32_w]; rw [c6b0]) | skip)
      by_cases c7 : a0 > 1073741824
      · rw [if_pos c7] at H
        have c7b0 : decide (1073741824 < a0) = true := decide_eq_true c7
        clear c7
        have H' := Aside0.mk H
        clear H
        go_wp2
        go_meet
        case rel => exact ⟨_, (true), (by first | rfl | (simp; done) | (simp [*]; done)), H', ⟨by first | omega | exact Nat.le_refl _⟩, ⟨by repeat (first | (with_reducible first | exact HB.out | apply below_alloc | apply pw_below_drewN | apply below_drew1) | exact HB.out)⟩⟩
      · rw [if_neg c7] at H
        have c7b0 : decide (1073741824 < a0) = false := decide_eq_false c7
        clear c7
        by_cases c8 : a1 < 0
        · rw [if_pos c8] at H
          have c8b0 : decide (a1 < 0) = true := decide_eq_true c8
          clear c8
          have H' := Aside0.mk H
          clear H
          go_wp2
          go_meet
          case rel => exact ⟨_, (true), (by first | rfl | (simp; done) | (simp [*]; done)), H', ⟨by first | omega | exact Nat.le_refl _⟩, ⟨by repeat (first | (with_reducible first | exact HB.out | apply below_alloc | apply pw_below_drewN | apply below_drew1) | exact HB.out)⟩⟩
        · rw [if_neg c8] at H
          have c8b0 : decide (a1 < 0) = false := decide_eq_false c8
          clear c8
          by_cases c9 : a1 > 1073741824
          · rw [if_pos c9] at H
            have c9b0 : decide (1073741824 < a1) = true := decide_eq_true c9
            clear c9
            have H' := Aside0.mk H
            clear H
            go_wp2
            go_meet
            case rel => exact ⟨_, (true), (by first | rfl | (simp; done) | (simp [*]; done)), H', ⟨by first | omega | exact Nat.le_refl _⟩, ⟨by repeat (first | (with_reducible first | exact HB.out | apply below_alloc | apply pw_below_drewN | apply below_drew1) | exact HB.out)⟩⟩
          · rw [if_neg c9] at H
            have c9b0 : decide (1073741824 < a1) = false := decide_eq_false c9
            clear c9
            by_cases c10 : a2 < 1
            · rw [if_pos c10] at H
              have c10b0 : decide (a2 < 1) = true := decide_eq_true c10
              clear c10
              have H' := Aside0.mk H
              clear H
              go_wp2
              go_meet
              case rel => exact ⟨_, (true), (by first | rfl | (simp; done) | (simp [*]; done)), H', ⟨by first | omega | exact Nat.le_refl _⟩, ⟨by repeat (first | (with_reducible first | exact HB.out | apply below_alloc | apply pw_below_drewN | apply below_drew1) | exact HB.out)⟩⟩
            · rw [if_neg c10] at H
              have c10b0 : decide (a2 < 1) = false := decide_eq_false c10
              clear c10
              have H' := Aside0.mk H
              clear H
              go_wp2
              go_meet
              case rel => exact ⟨_, (decide (a2 > 60)), (by first | rfl | (simp; done) | (simp [*]; done)), H', ⟨by first | omega | exact Nat.le_refl _⟩, ⟨by repeat (first | (with_reducible first | exact HB.out | apply below_alloc | apply pw_below_drewN | apply below_drew1) | exact HB.out)⟩⟩
  case rest =>
    clear HC5
    try clear c1
    try clear p2
    try clear c3
    try clear c6
    try clear c6b0
    try clear c7
    try clear c7b0
    try clear c8
    try clear c8b0
    try clear c9
    try clear c9b0
    try clear c10
    try clear c10b0
    obtain ⟨kq, x38_4, rfl, HA, HJ4, HB⟩ := hcut
    cases kq with
    | zero => exact absurd HA.out (by simp [haywainlaw12_LeaseEnds.j0])
    | succ kj4 =>
      have H := HA.out
      clear HA
      simp only [haywainlaw12_LeaseEnds.j0] at H
      by_cases c11 : x38_4 = true
      · subst c11
        have H1 : ((haywainlaw12_knows.f kj4).bind fun t124 => (some t124)) = some r := by rw [if_pos rfl] at H; exact H
        clear H
        have H := H1
        clear H1
        replace H := Option.bind_eq_some_iff.mp H
        obtain ⟨t124, A120, H⟩ := H
        replace H : (some t124) = some r := H
        have A12 := Aside0.mk A120
        clear A120
        obtain rfl := Option.some.inj H
        go_wp2_with (first | ((with_reducible refine gate_callee (f := 13) rfl ?_); refine goesL_ (some 39) rfl rfl Try.func13 (by kernel_rfl) rfl #[] rfl (by (try simp only [List.map_toArray, List.map_cons, List.map_nil]); first | done | rfl | (simp only [List.length_drop, List.length_take]; rfl)) ?_; (with_reducible refine (haywainlaw12_knows.calls kj4  t124 _ A12.out).mono ?_); rintro e w13 ⟨rfl, hb⟩; refine ⟨_, rfl, ?_⟩; have n0_ := Aside0.mk (below_step (by repeat (first | (with_reducible first | exact HB.out | apply below_alloc | apply pw_below_drewN | apply below_drew1) | exact HB.out)) hb); clear HB; have HB := n0_; clear n0_; (try clear hb); (try clear hb2); (try clear hk); (try clear hi)))
        go_ret
        exact ⟨by first | rfl | (simp [errW_none, errW_some] <;> rfl) | (simp [*, errW_none, errW_some] <;> rfl), by repeat (first | (with_reducible first | exact HB.out | apply below_alloc | apply pw_below_drewN | apply below_drew1) | exact HB.out)⟩
      · replace c11 := Bool.eq_false_iff.mpr c11
        subst c11
        have H1 : ((lease_Until.f kj4 a0 a2).bind fun bt125 => ((lease_Free.f kj4 a1 a2).bind fun bt127 => (haywainlaw12_LeaseEnds.l0 kj4 a2 l3 bt125.1 bt125.2 bt127.1 bt127.2 a0 a1 0))) = some r := by rw [if_neg (show ¬ (false = true) by decide)] at H; exact H
        clear H
        have H := H1
        clear H1
        replace H := Option.bind_eq_some_iff.mp H
        obtain ⟨⟨t125, t126⟩, A140, H⟩ := H
        replace H : ((lease_Free.f kj4 a1 a2).bind fun bt127 => (haywainlaw12_LeaseEnds.l0 kj4 a2 l3 t125 t126 bt127.1 bt127.2 a0 a1 0)) = some r := H
        have A14 := Aside0.mk A140
        clear A140
        replace H := Option.bind_eq_some_iff.mp H
        obtain ⟨⟨t127, t128⟩, A150, H⟩ := H
        replace H : (haywainlaw12_LeaseEnds.l0 kj4 a2 l3 t125 t126 t127 t128 a0 a1 0) = some r := H
        have A15 := Aside0.mk A150
        clear A150
        have H' := Aside0.mk H
        clear H
        go_wp2_with (first | ((with_reducible refine gate_callee (f := 9) rfl ?_); refine goesL_ (some 43) rfl rfl Try.func9 (by kernel_rfl) rfl #[.int .i64 a0, .int .i64 a2] rfl (by (try simp only [List.map_toArray, List.map_cons, List.map_nil]); first | done | rfl | (simp only [List.length_drop, List.length_take]; rfl)) ?_; (with_reducible refine (lease_Until.calls kj4 a0 a2 t125 t126 _ A14.out).mono ?_); rintro e w16 ⟨rfl, hb⟩; refine ⟨_, rfl, ?_⟩; have n0_ := Aside0.mk (below_step (by repeat (first | (with_reducible first | exact HB.out | apply below_alloc | apply pw_below_drewN | apply below_drew1) | exact HB.out)) hb); clear HB; have HB := n0_; clear n0_; (try clear hb); (try clear hb2); (try clear hk); (try clear hi)) | ((with_reducible refine gate_callee (f := 11) rfl ?_); refine goesL_ (some 49) rfl rfl Try.func11 (by kernel_rfl) rfl #[.int .i64 a1, .int .i64 a2] rfl (by (try simp only [List.map_toArray, List.map_cons, List.map_nil]); first | done | rfl | (simp only [List.length_drop, List.length_take]; rfl)) ?_; (with_reducible refine (lease_Free.calls kj4 a1 a2 t127 t128 _ A15.out).mono ?_); rintro e w17 ⟨rfl, hb⟩; refine ⟨_, rfl, ?_⟩; have n0_ := Aside0.mk (below_step (by repeat (first | (with_reducible first | exact HB.out | apply below_alloc | apply pw_below_drewN | apply below_drew1) | exact HB.out)) hb); clear HB; have HB := n0_; clear n0_; (try clear hb); (try clear hb2); (try clear hk); (try clear hi)))
        go_loopg [13, 14, 15] kj4 (fun kq v13 v14 v15 w' => ∃ (x13_2 : Int) (x14_2 : Int) (x15_2 : Int), v13 = .int .i64 x13_2 ∧ v14 = .int .i64 x14_2 ∧ v15 = .int .i64 x15_2 ∧ Aside0 (haywainlaw12_LeaseEnds.l0 kq a2 l3 t125 t126 t127 t128 x13_2 x14_2 x15_2 = some r) ∧ Aside0 (kq ≤ kj4) ∧ Aside0 (Below w.heap.size w w'))
        case atStart => exact ⟨(a0), (a1), (0), (by first | rfl | (simp; done) | (simp [*]; done)), (by first | rfl | (simp; done) | (simp [*]; done)), (by first | rfl | (simp; done) | (simp [*]; done)), H', ⟨Nat.le_refl _⟩, ⟨by repeat (first | (with_reducible first | exact HB.out | apply below_alloc | apply pw_below_drewN | apply below_drew1) | exact HB.out)⟩⟩
        case round =>
          clear H'
          try clear c1
          try clear p2
          try clear c3
          try clear c6
          try clear c6b0
          try clear c7
          try clear c7b0
          try clear c8
          try clear c8b0
          try clear c9
          try clear c9b0
          try clear c10
          try clear c10b0
          try clear c11
          try clear c13
          try clear p2
          obtain ⟨x13_2, x14_2, x15_2, rfl, rfl, rfl, HA, HK2, HB⟩ := hrel
          cases gk with
          | zero => exact absurd HA.out (by simp [haywainlaw12_LeaseEnds.l0])
          | succ k2 =>
            have H := HA.out
            clear HA
            simp only [haywainlaw12_LeaseEnds.l0] at H
            by_cases c18 : x15_2 < (wrap64 (2 * a2))
            · rw [if_pos c18] at H
              have c18b0 : decide (x15_2 < (wrap64 (2 * a2))) = true := decide_eq_true c18
              clear c18
              by_cases c19 : x15_2 < (l3.length : Int)
              · rw [if_pos c19] at H
                have c19b0 : decide (x15_2 < (l3.length : Int)) = true := decide_eq_true c19
                clear c19
                by_cases c20 : 0 ≤ x15_2
                · rw [if_pos c20] at H
                  have c20b0 : decide (0 ≤ x15_2) = true := decide_eq_true c20
                  clear c20
                  have H' := Aside0.mk H
                  clear H
                  have p129 : 0 ≤ (x15_2 : Int) := of_decide_eq_true (by first | (with_reducible assumption) | assumption)
                  have q129 : x15_2 < (l3.length : Int) := of_decide_eq_true (by first | (with_reducible assumption) | assumption)
                  obtain ⟨ad129, e129, hx129_0⟩ := Kd.at_int HR3.out x15_2 p129 q129
                  cases e129
                  replace hx129_0 := (HB.out.cell (World.block_lt_of_cell? w _ hx129_0)).trans hx129_0
                  replace p129 := eq_true p129
                  replace q129 := eq_true q129
                  go_wp2
                  go_roundg k2
                  case measure => have := HJ4.out; have := HK2.out; omega
                  case rel => exact ⟨(wrap64 ((wrap64 (x13_2 + 7)) + (Int.tmod (wrap64 (Int.tmod (rd l3 x15_2) 9)) 3))), (wrap64 ((wrap64 (x14_2 + 7)) + (wrap64 (Int.tdiv (wrap64 (Int.tmod (rd l3 x15_2) 9)) 3)))), (wrap64 (x15_2 + 1)), (by first | rfl | (simp; done) | (simp [*]; done)), (by first | rfl | (simp; done) | (simp [*]; done)), (by first | rfl | (simp; done) | (simp [*]; done)), H', ⟨by have := HJ4.out; have := HK2.out; omega⟩, ⟨by repeat (first | (with_reducible first | exact HB.out | apply below_alloc | apply pw_below_drewN | apply below_drew1) | exact HB.out)⟩⟩
                · rw [if_neg c20] at H
                  exact absurd H (by simp)
              · rw [if_neg c19] at H
                have c19b0 : decide (x15_2 < (l3.length : Int)) = false := decide_eq_false c19
                clear c19
                have H' := Aside0.mk H
                clear H
                go_wp2
                go_roundg k2
                case measure => have := HJ4.out; have := HK2.out; omega
                case rel => exact ⟨(wrap64 ((wrap64 (x13_2 + 7)) + ((0 : Int) % 3))), (wrap64 ((wrap64 (x14_2 + 7)) + ((0 : Int) / 3))), (wrap64 (x15_2 + 1)), (by first | rfl | (simp; done) | (simp [*]; done)), (by first | rfl | (simp; done) | (simp [*]; done)), (by first | rfl | (simp; done) | (simp [*]; done)), H', ⟨by have := HJ4.out; have := HK2.out; omega⟩, ⟨by repeat (first | (with_reducible first | exact HB.out | apply below_alloc | apply pw_below_drewN | apply below_drew1) | exact HB.out)⟩⟩
            · rw [if_neg c18] at H
              have c18b0 : decide (x15_2 < (wrap64 (2 * a2))) = false := decide_eq_false c18
              clear c18
              by_cases c21 : t126 = 0
              · rw [if_pos c21] at H
                have c21b0 : (t126 == 0) = true := beq_iff_eq.mpr c21
                have c21b1 : (t126 != 0) = false := bne_eq_false_iff_eq.mpr c21
                clear c21
                by_cases c22 : t128 = 0
                · rw [if_pos c22] at H
                  have c22b0 : (t128 == 0) = true := beq_iff_eq.mpr c22
                  have c22b1 : (t128 != 0) = false := bne_eq_false_iff_eq.mpr c22
                  clear c22
                  replace H := Option.bind_eq_some_iff.mp H
                  obtain ⟨t130, A230, H⟩ := H
                  replace H : (if t130 = true then (some false) else ((lease_Gone.f x14_2 t127).bind fun t131 => (if t131 = true then ((haywainlaw12_knows.f k2).bind fun t132 => (some t132)) else (some false)))) = some r := H
                  have A23 := Aside0.mk A230
                  clear A230
                  by_cases c24 : t130 = true
                  · subst c24
                    have H1 : (some false) = some r := by rw [if_pos rfl] at H; exact H
                    clear H
                    have H := H1
                    clear H1
                    obtain rfl := Option.some.inj H
                    go_wp2_with (first | (go_at_call 14; (with_reducible refine (lease_Holds.calls x13_2 t125 true _ A23.out).mono ?_); rintro e w' ⟨rfl, ⟨nd, rfl⟩⟩))
                    go_ret
                    exact ⟨by first | rfl | (simp [errW_none, errW_some] <;> rfl) | (simp [*, errW_none, errW_some] <;> rfl), by repeat (first | (with_reducible first | exact HB.out | apply below_alloc | apply pw_below_drewN | apply below_drew1) | exact HB.out)⟩
                  · replace c24 := Bool.eq_false_iff.mpr c24
                    subst c24
                    have H1 : ((lease_Gone.f x14_2 t127).bind fun t131 => (if t131 = true then ((haywainlaw12_knows.f k2).bind fun t132 => (some t132)) else (some false))) = some r := by rw [if_neg (show ¬ (false = true) by decide)] at H; exact H
                    clear H
                    have H := H1
                    clear H1
                    replace H := Option.bind_eq_some_iff.mp H
                    obtain ⟨t131, A250, H⟩ := H
                    replace H : (if t131 = true then ((haywainlaw12_knows.f k2).bind fun t132 => (some t132)) else (some false)) = some r := H
                    have A25 := Aside0.mk A250
                    clear A250
                    by_cases c26 : t131 = true
                    · subst c26
                      have H1 : ((haywainlaw12_knows.f k2).bind fun t132 => (some t132)) = some r := by rw [if_pos rfl] at H; exact H
                      clear H
                      have H := H1
                      clear H1
                      replace H := Option.bind_eq_some_iff.mp H
                      obtain ⟨t132, A270, H⟩ := H
                      replace H : (some t132) = some r := H
                      have A27 := Aside0.mk A270
                      clear A270
                      obtain rfl := Option.some.inj H
                      go_wp2_with (first | (go_at_call 14; (with_reducible refine (lease_Holds.calls x13_2 t125 false _ A23.out).mono ?_); rintro e w' ⟨rfl, ⟨nd, rfl⟩⟩) | (go_at_call 15; (with_reducible refine (lease_Gone.calls x14_2 t127 true _ A25.out).mono ?_); rintro e w' ⟨rfl, ⟨nd, rfl⟩⟩) | (go_at_call 13; (with_reducible refine (haywainlaw12_knows.calls k2  t132 _ A27.out).mono ?_); rintro e w28 ⟨rfl, hb⟩; have n0_ := Aside0.mk (below_step (by repeat (first | (with_reducible first | exact HB.out | apply below_alloc | apply pw_below_drewN | apply below_drew1) | exact HB.out)) hb); clear HB; have HB := n0_; clear n0_; (try clear hb); (try clear hb2); (try clear hk); (try clear hi)))
                      go_ret
                      exact ⟨by first | rfl | (simp [errW_none, errW_some] <;> rfl) | (simp [*, errW_none, errW_some] <;> rfl), by repeat (first | (with_reducible first | exact HB.out | apply below_alloc | apply pw_below_drewN | apply below_drew1) | exact HB.out)⟩
                    · replace c26 := Bool.eq_false_iff.mpr c26
                      subst c26
                      have H1 : (some false) = some r := by rw [if_neg (show ¬ (false = true) by decide)] at H; exact H
                      clear H
                      have H := H1
                      clear H1
                      obtain rfl := Option.some.inj H
                      go_wp2_with (first | (go_at_call 14; (with_reducible refine (lease_Holds.calls x13_2 t125 false _ A23.out).mono ?_); rintro e w' ⟨rfl, ⟨nd, rfl⟩⟩) | (go_at_call 15; (with_reducible refine (lease_Gone.calls x14_2 t127 false _ A25.out).mono ?_); rintro e w' ⟨rfl, ⟨nd, rfl⟩⟩))
                      go_ret
                      exact ⟨by first | rfl | (simp [errW_none, errW_some] <;> rfl) | (simp [*, errW_none, errW_some] <;> rfl), by repeat (first | (with_reducible first | exact HB.out | apply below_alloc | apply pw_below_drewN | apply below_drew1) | exact HB.out)⟩
                · rw [if_neg c22] at H
                  have c22b0 : (t128 == 0) = false := beq_eq_false_iff_ne.mpr c22
                  have c22b1 : (t128 != 0) = true := bne_iff_ne.mpr c22
                  obtain rfl := Option.some.inj H
                  go_wp2
                  go_ret
                  exact ⟨by first | rfl | (simp [errW_none, errW_some] <;> rfl) | (simp [*, errW_none, errW_some] <;> rfl), by repeat (first | (with_reducible first | exact HB.out | apply below_alloc | apply pw_below_drewN | apply below_drew1) | exact HB.out)⟩
              · rw [if_neg c21] at H
                have c21b0 : (t126 == 0) = false := beq_eq_false_iff_ne.mpr c21
                have c21b1 : (t126 != 0) = true := bne_iff_ne.mpr c21
                obtain rfl := Option.some.inj H
                go_wp2
                go_ret
                exact ⟨by first | rfl | (simp [errW_none, errW_some] <;> rfl) | (simp [*, errW_none, errW_some] <;> rfl), by repeat (first | (with_reducible first | exact HB.out | apply below_alloc | apply pw_below_drewN | apply below_drew1) | exact HB.out)⟩

/-- THE ONE PURE STATEMENT of haywainlaw12_LeaseEnds: yours. -/
def haywainlaw12_LeaseEnds.Pure : Prop := ∀ (a0 : Int) (a1 : Int) (a2 : Int) (l3 : List Int), (Lit.int .i64 a0).wf = true → (Lit.int .i64 a1).wf = true → (Lit.int .i64 a2).wf = true → l3.length ≤ maxLen → l3.length * 1 ≤ 140737488351232 → (∀ x ∈ l3, (Lit.int .u8 x).wf = true) → ∃ k, haywainlaw12_LeaseEnds.f k a0 a1 a2 l3 = some true
theorem haywainlaw12_LeaseEnds.walk (P : haywainlaw12_LeaseEnds.Pure) (a0 : Int) (a1 : Int) (a2 : Int) (a3 : Option Addr) (len3 cap3 : Nat) (z3 : List Int) (w : World) (w0 : (Lit.int .i64 a0).wf = true) (w1 : (Lit.int .i64 a1).wf = true) (w2 : (Lit.int .i64 a2).wf = true) (w3 : (a3 = none ∧ len3 = 0 ∧ cap3 = 0 ∧ z3 = []) ∨ ∃ x, a3 = some x ∧ len3 ≤ cap3 ∧ cap3 ≤ maxLen ∧ z3.length = cap3 ∧ (∀ i, i < z3.length → w.cell? (x.add i) = some (.int .u8 (z3.getD i 0))) ∧ ∀ n ∈ z3, (Lit.int .u8 n).wf = true) (y3 : len3 * 1 ≤ 140737488351232) :
    Calls Try.prog 6 #[.int .i64 a0, .int .i64 a1, .int .i64 a2, .slice a3 len3 cap3] w fun e w' => e = .returned (.bool true) ∧ Below w.heap.size w w' := by
  obtain ⟨l3, rfl, hr3, hm3, hw3, hc3⟩ := ReadsInt.ofRowC w3
  obtain ⟨k, h⟩ := P a0 a1 a2 l3 w0 w1 w2 hm3 y3 hw3
  refine (haywainlaw12_LeaseEnds.calls k a0 a1 a2 _ _ l3 true w (Kd.C_of_reads (d := (0 : Int)) (h1 := fun _ => rfl) hr3) hc3 h).mono ?_
  rintro e w' ⟨rfl, hd⟩
  exact ⟨rfl, hd⟩

end Go.Proofs.Ytennlpldfjgldaa.PLeaseEnds
