-- Written by a program of this session out of the translation: a turned copy of the kit's print that takes functions proved by hand.
import Derived.Test.YtpachjomjoaipaaPCodeTakesx0
import Derived.Test.YtpachjomjoaipaaPCodeTakesx1
import Derived.Test.YtpachjomjoaipaaPCodeTakesx2
import Derived.Test.YtpachjomjoaipaaPCodeTakesx3
namespace Go.Proofs.Ytpachjomjoaipaa.PCodeTakes
open Go.RowKit Go.Proofs.YtpachjomjoaipaaW.PrintWords Go.Proofs.YtpachjomjoaipaaW.PrintLast Go.Proofs.YtpachjomjoaipaaW.PrintMore
attribute [local go_sem] max2_int min2_int max_two min_two max_three min_three max_four min_four   -- for this text's walks alone
set_option linter.unusedVariables false
set_option linter.unusedSimpArgs false

/-! ### haywainlaw02_CodeTakes: function 8 -/
def haywainlaw02_CodeTakes.j0 : Nat → List Int → List Int → Bool → List Int → Int → Bool → Bool → Option (Bool)
  | 0, _, _, _, _, _, _, _ => none
  | k + 1, x0, x4, x7, x9, x12, x13, x79 => if x79 = true then (some false) else (if x7 = true then (if 8 ≤ (x0.length : Int) then (if (strOfNums x4).toList = (strOfNums (x0.drop 8)).toList then (if x13 = true then (if 0 ≤ x12 then (if x12 ≤ (x0.length : Int) then (if (strOfNums x9).toList = (strOfNums (x0.drop (x12 : Int).toNat)).toList then ((haywainlaw02_knows.f k).bind fun t251 => (some t251)) else (some false)) else (none)) else (none)) else (if (x9.length : Int) = 0 then ((haywainlaw02_knows.f k).bind fun t252 => (some t252)) else (some false))) else (some false)) else (none)) else (if x13 = true then (if 0 ≤ x12 then (if x12 ≤ (x0.length : Int) then (if (strOfNums x9).toList = (strOfNums (x0.drop (x12 : Int).toNat)).toList then (if (x4.length : Int) = 0 then ((haywainlaw02_knows.f k).bind fun t254 => (some t254)) else (some false)) else (some false)) else (none)) else (none)) else (if (x4.length : Int) = 0 then (if (x9.length : Int) = 0 then ((haywainlaw02_knows.f k).bind fun t255 => (some t255)) else (some false)) else (some false))))
def haywainlaw02_CodeTakes.f (k : Nat) (l0 : List Int) : Option (Bool) := (haywainlaw02_great.f l0).bind fun t220 => (if t220 = true then ((haywainlaw02_knows.f k).bind fun t221 => (some t221)) else ((some (([] : List Int) : List Int)).bind fun y222 => (if y222.length + l0.length < 140737488355328 then ((code_TakeNum.f k (y222 ++ l0)).bind fun bt228 => ((haywainref02_TakeNum.f k l0).bind fun bt233 => ((some (([] : List Int) : List Int)).bind fun y235 => (if y235.length + l0.length < 140737488355328 then ((code_TakeText.f k (y235 ++ l0)).bind fun bt241 => ((haywainref02_TakeText.f k l0).bind fun bt246 => (if bt228.1 = bt233.1 then (if bt241.1.toList = bt246.1.toList then (if ((bt228.2.2 == 0) != bt233.2) = true then (haywainlaw02_CodeTakes.j0 k l0 bt228.2.1 bt233.2 bt241.2.1 bt246.2.1 bt246.2.2 true) else (if ((bt241.2.2 == 0) != bt246.2.2) = true then (haywainlaw02_CodeTakes.j0 k l0 bt228.2.1 bt233.2 bt241.2.1 bt246.2.1 bt246.2.2 true) else (if bt233.2 = true then (if bt246.2.2 = true then (haywainlaw02_CodeTakes.j0 k l0 bt228.2.1 bt233.2 bt241.2.1 bt246.2.1 bt246.2.2 false) else (haywainlaw02_CodeTakes.j0 k l0 bt228.2.1 bt233.2 bt241.2.1 bt246.2.1 bt246.2.2 (bt241.2.2 != 2))) else (if bt228.2.2 = 2 then (if bt246.2.2 = true then (haywainlaw02_CodeTakes.j0 k l0 bt228.2.1 bt233.2 bt241.2.1 bt246.2.1 bt246.2.2 false) else (haywainlaw02_CodeTakes.j0 k l0 bt228.2.1 bt233.2 bt241.2.1 bt246.2.1 bt246.2.2 (bt241.2.2 != 2))) else (haywainlaw02_CodeTakes.j0 k l0 bt228.2.1 bt233.2 bt241.2.1 bt246.2.1 bt246.2.2 true))))) else (haywainlaw02_CodeTakes.j0 k l0 bt228.2.1 bt233.2 bt241.2.1 bt246.2.1 bt246.2.2 true)) else (haywainlaw02_CodeTakes.j0 k l0 bt228.2.1 bt233.2 bt241.2.1 bt246.2.1 bt246.2.2 true)))) else (none))))) else (none))))
theorem haywainlaw02_CodeTakes.mono_l : ∀ k, (∀ y0 y1 y2 y3 y4 y5 y6, LeO (haywainlaw02_CodeTakes.j0 k y0 y1 y2 y3 y4 y5 y6) (haywainlaw02_CodeTakes.j0 (k + 1) y0 y1 y2 y3 y4 y5 y6))
  | 0 => fun _ _ _ _ _ _ _ r h => by simp [haywainlaw02_CodeTakes.j0] at h
  | k + 1 => by
    have ih0 := haywainlaw02_CodeTakes.mono_l k
    · intro y0 y1 y2 y3 y4 y5 y6
      unfold haywainlaw02_CodeTakes.j0
      repeat' first
      | (with_reducible exact ih0 _ _ _ _ _ _ _)
      | (with_reducible exact code_TakeNum.mono _ _)
      | (with_reducible exact code_TakeText.mono _ _)
      | (with_reducible exact haywainlaw02_knows.mono _)
      | (with_reducible exact haywainref02_TakeNum.mono _ _)
      | (with_reducible exact haywainref02_TakeText.mono _ _)
      | (with_reducible exact LeO.refl _)
      | (with_reducible exact LeO.none _)
      | (with_reducible refine LeO.ite ?_ ?_)
      | (with_reducible refine LeO.bind ?_ (fun _ => ?_))
      | exact ih0 _ _ _ _ _ _ _
      | exact code_TakeNum.mono _ _
      | exact code_TakeText.mono _ _
      | exact haywainlaw02_knows.mono _
      | exact haywainref02_TakeNum.mono _ _
      | exact haywainref02_TakeText.mono _ _
      | exact LeO.none _
      | refine LeO.ite ?_ ?_
      | refine LeO.bind ?_ (fun _ => ?_)
theorem haywainlaw02_CodeTakes.mono : ∀ a0 k, LeO (haywainlaw02_CodeTakes.f k a0) (haywainlaw02_CodeTakes.f (k + 1) a0) := by
  intro a0 k
  have ih0 := haywainlaw02_CodeTakes.mono_l k
  unfold haywainlaw02_CodeTakes.f
  repeat' first
      | (with_reducible exact ih0 _ _ _ _ _ _ _)
      | (with_reducible exact code_TakeNum.mono _ _)
      | (with_reducible exact code_TakeText.mono _ _)
      | (with_reducible exact haywainlaw02_knows.mono _)
      | (with_reducible exact haywainref02_TakeNum.mono _ _)
      | (with_reducible exact haywainref02_TakeText.mono _ _)
      | (with_reducible exact LeO.refl _)
      | (with_reducible exact LeO.none _)
      | (with_reducible refine LeO.ite ?_ ?_)
      | (with_reducible refine LeO.bind ?_ (fun _ => ?_))
      | exact ih0 _ _ _ _ _ _ _
      | exact code_TakeNum.mono _ _
      | exact code_TakeText.mono _ _
      | exact haywainlaw02_knows.mono _
      | exact haywainref02_TakeNum.mono _ _
      | exact haywainref02_TakeText.mono _ _
      | exact LeO.none _
      | refine LeO.ite ?_ ?_
      | refine LeO.bind ?_ (fun _ => ?_)
set_option maxHeartbeats 8000000 in
set_option maxRecDepth 100000 in
theorem haywainlaw02_CodeTakes.calls (k : Nat) (A0 : Option Addr) (c0 : Nat) (l0 : List Int) (r : Bool) (w : World) (hr0 : Kd.C (Kd.int .u8) w A0 l0.length l0) (hc0 : l0.length ≤ c0) (h : haywainlaw02_CodeTakes.f k l0 = some r) (hr_ : r = true) :
    Calls Try.prog 8 #[.slice A0 l0.length c0] w fun e w' => e = .returned (.bool r) ∧ Below w.heap.size w w' := by
  have HR_ := Aside0.mk hr_
  clear hr_
  have HR0 := Aside0.mk hr0
  have HC0 := Aside0.mk hc0
  clear hr0 hc0
  have HB := Aside0.mk (Below.refl w.heap.size w)
  have H : ((haywainlaw02_great.f l0).bind fun t220 => (if t220 = true then ((haywainlaw02_knows.f k).bind fun t221 => (some t221)) else ((some (([] : List Int) : List Int)).bind fun y222 => (if y222.length + l0.length < 140737488355328 then ((code_TakeNum.f k (y222 ++ l0)).bind fun bt228 => ((haywainref02_TakeNum.f k l0).bind fun bt233 => ((some (([] : List Int) : List Int)).bind fun y235 => (if y235.length + l0.length < 140737488355328 then ((code_TakeText.f k (y235 ++ l0)).bind fun bt241 => ((haywainref02_TakeText.f k l0).bind fun bt246 => (if bt228.1 = bt233.1 then (if bt241.1.toList = bt246.1.toList then (if ((bt228.2.2 == 0) != bt233.2) = true then (haywainlaw02_CodeTakes.j0 k l0 bt228.2.1 bt233.2 bt241.2.1 bt246.2.1 bt246.2.2 true) else (if ((bt241.2.2 == 0) != bt246.2.2) = true then (haywainlaw02_CodeTakes.j0 k l0 bt228.2.1 bt233.2 bt241.2.1 bt246.2.1 bt246.2.2 true) else (if bt233.2 = true then (if bt246.2.2 = true then (haywainlaw02_CodeTakes.j0 k l0 bt228.2.1 bt233.2 bt241.2.1 bt246.2.1 bt246.2.2 false) else (haywainlaw02_CodeTakes.j0 k l0 bt228.2.1 bt233.2 bt241.2.1 bt246.2.1 bt246.2.2 (bt241.2.2 != 2))) else (if bt228.2.2 = 2 then (if bt246.2.2 = true then (haywainlaw02_CodeTakes.j0 k l0 bt228.2.1 bt233.2 bt241.2.1 bt246.2.1 bt246.2.2 false) else (haywainlaw02_CodeTakes.j0 k l0 bt228.2.1 bt233.2 bt241.2.1 bt246.2.1 bt246.2.2 (bt241.2.2 != 2))) else (haywainlaw02_CodeTakes.j0 k l0 bt228.2.1 bt233.2 bt241.2.1 bt246.2.1 bt246.2.2 true))))) else (haywainlaw02_CodeTakes.j0 k l0 bt228.2.1 bt233.2 bt241.2.1 bt246.2.1 bt246.2.2 true)) else (haywainlaw02_CodeTakes.j0 k l0 bt228.2.1 bt233.2 bt241.2.1 bt246.2.1 bt246.2.2 true)))) else (none))))) else (none))))) = some r := h
  clear h
  replace H := Option.bind_eq_some_iff.mp H
  obtain ⟨t220, A20, H⟩ := H
  replace H : (if t220 = true then ((haywainlaw02_knows.f k).bind fun t221 => (some t221)) else ((some (([] : List Int) : List Int)).bind fun y222 => (if y222.length + l0.length < 140737488355328 then ((code_TakeNum.f k (y222 ++ l0)).bind fun bt228 => ((haywainref02_TakeNum.f k l0).bind fun bt233 => ((some (([] : List Int) : List Int)).bind fun y235 => (if y235.length + l0.length < 140737488355328 then ((code_TakeText.f k (y235 ++ l0)).bind fun bt241 => ((haywainref02_TakeText.f k l0).bind fun bt246 => (if bt228.1 = bt233.1 then (if bt241.1.toList = bt246.1.toList then (if ((bt228.2.2 == 0) != bt233.2) = true then (haywainlaw02_CodeTakes.j0 k l0 bt228.2.1 bt233.2 bt241.2.1 bt246.2.1 bt246.2.2 true) else (if ((bt241.2.2 == 0) != bt246.2.2) = true then (haywainlaw02_CodeTakes.j0 k l0 bt228.2.1 bt233.2 bt241.2.1 bt246.2.1 bt246.2.2 true) else (if bt233.2 = true then (if bt246.2.2 = true then (haywainlaw02_CodeTakes.j0 k l0 bt228.2.1 bt233.2 bt241.2.1 bt246.2.1 bt246.2.2 false) else (haywainlaw02_CodeTakes.j0 k l0 bt228.2.1 bt233.2 bt241.2.1 bt246.2.1 bt246.2.2 (bt241.2.2 != 2))) else (if bt228.2.2 = 2 then (if bt246.2.2 = true then (haywainlaw02_CodeTakes.j0 k l0 bt228.2.1 bt233.2 bt241.2.1 bt246.2.1 bt246.2.2 false) else (haywainlaw02_CodeTakes.j0 k l0 bt228.2.1 bt233.2 bt241.2.1 bt246.2.1 bt246.2.2 (bt241.2.2 != 2))) else (haywainlaw02_CodeTakes.j0 k l0 bt228.2.1 bt233.2 bt241.2.1 bt246.2.1 bt246.2.2 true))))) else (haywainlaw02_CodeTakes.j0 k l0 bt228.2.1 bt233.2 bt241.2.1 bt246.2.1 bt246.2.2 true)) else (haywainlaw02_CodeTakes.j0 k l0 bt228.2.1 bt233.2 bt241.2.1 bt246.2.1 bt246.2.2 true)))) else (none))))) else (none)))) = some r := H
  have A2 := Aside0.mk A20
  clear A20
  by_cases c3 : t220 = true
  · subst c3
    have H1 : ((haywainlaw02_knows.f k).bind fun t221 => (some t221)) = some r := by rw [if_pos rfl] at H; exact H
    clear H
    have H := H1
    clear H1
    replace H := Option.bind_eq_some_iff.mp H
    obtain ⟨t221, A40, H⟩ := H
    replace H : (some t221) = some r := H
    have A4 := Aside0.mk A40
    clear A40
    obtain rfl := Option.some.inj H
    go_enter Try.func8, Try.ntmps8
    go_wp2_with (first | (go_at_call 10; (with_reducible refine (haywainlaw02_great.calls _ _ l0 true _ ?side1 ?side2 A2.out).mono ?_); (case side1 => repeat (first | exact HR0.out | (with_reducible refine Kd.C_alloc ?_ _) | (with_reducible refine Kd.C_drewN ?_ _) | (with_reducible refine Kd.C_drew ?_))); (case side2 => exact HC0.out); rintro e w' ⟨rfl, ⟨nd, rfl⟩⟩; (try first | exact ⟨rfl, _, World.drewN_drewN _ _ _⟩ | exact ⟨rfl, _, Eq.trans (World.drewN_drewN _ _ _) (congrArg (World.drewN _) (Nat.add_assoc _ _ _))⟩)) | (go_at_call 11; (with_reducible refine (haywainlaw02_knows.calls k  t221 _ A4.out HR_.out).mono ?_); rintro e w5 ⟨rfl, hb⟩; have n0_ := Aside0.mk (below_step (by repeat (first | (with_reducible first | exact HB.out | apply below_alloc | apply pw_below_drewN | apply below_drew1) | exact HB.out)) hb); clear HB; have HB := n0_; clear n0_; (try clear hb); (try clear hb2); (try clear hk); (try clear hi)))
    repeat (go_quiet (first | (go_at_call 10; (with_reducible refine (haywainlaw02_great.calls _ _ l0 true _ ?side1 ?side2 A2.out).mono ?_); (case side1 => repeat (first | exact HR0.out | (with_reducible refine Kd.C_alloc ?_ _) | (with_reducible refine Kd.C_drewN ?_ _) | (with_reducible refine Kd.C_drew ?_))); (case side2 => exact HC0.out); rintro e w' ⟨rfl, ⟨nd, rfl⟩⟩; (try first | exact ⟨rfl, _, World.drewN_drewN _ _ _⟩ | exact ⟨rfl, _, Eq.trans (World.drewN_drewN _ _ _) (congrArg (World.drewN _) (Nat.add_assoc _ _ _))⟩)) | (go_at_call 11; (with_reducible refine (haywainlaw02_knows.calls k  t221 _ A4.out HR_.out).mono ?_); rintro e w5 ⟨rfl, hb⟩; have n0_ := Aside0.mk (below_step (by repeat (first | (with_reducible first | exact HB.out | apply below_alloc | apply pw_below_drewN | apply below_drew1) | exact HB.out)) hb); clear HB; have HB := n0_; clear n0_; (try clear hb); (try clear hb2); (try clear hk); (try clear hi))); try go_wp2_with (first | (go_at_call 10; (with_reducible refine (haywainlaw02_great.calls _ _ l0 true _ ?side1 ?side2 A2.out).mono ?_); (case side1 => repeat (first | exact HR0.out | (with_reducible refine Kd.C_alloc ?_ _) | (with_reducible refine Kd.C_drewN ?_ _) | (with_reducible refine Kd.C_drew ?_))); (case side2 => exact HC0.out); rintro e w' ⟨rfl, ⟨nd, rfl⟩⟩; (try first | exact ⟨rfl, _, World.drewN_drewN _ _ _⟩ | exact ⟨rfl, _, Eq.trans (World.drewN_drewN _ _ _) (congrArg (World.drewN _) (Nat.add_assoc _ _ _))⟩)) | (go_at_call 11; (with_reducible refine (haywainlaw02_knows.calls k  t221 _ A4.out HR_.out).mono ?_); rintro e w5 ⟨rfl, hb⟩; have n0_ := Aside0.mk (below_step (by repeat (first | (with_reducible first | exact HB.out | apply below_alloc | apply pw_below_drewN | apply below_drew1) | exact HB.out)) hb); clear HB; have HB := n0_; clear n0_; (try clear hb); (try clear hb2); (try clear hk); (try clear hi))))
    go_ret
    exact ⟨by first | rfl | (simp [errW_none, errW_some] <;> rfl) | (simp [*, errW_none, errW_some] <;> rfl), by repeat (first | (with_reducible first | exact HB.out | apply below_alloc | apply pw_below_drewN | apply below_drew1) | exact HB.out)⟩
  · replace c3 := Bool.eq_false_iff.mpr c3
    subst c3
    have H1 : ((some (([] : List Int) : List Int)).bind fun y222 => (if y222.length + l0.length < 140737488355328 then ((code_TakeNum.f k (y222 ++ l0)).bind fun bt228 => ((haywainref02_TakeNum.f k l0).bind fun bt233 => ((some (([] : List Int) : List Int)).bind fun y235 => (if y235.length + l0.length < 140737488355328 then ((code_TakeText.f k (y235 ++ l0)).bind fun bt241 => ((haywainref02_TakeText.f k l0).bind fun bt246 => (if bt228.1 = bt233.1 then (if bt241.1.toList = bt246.1.toList then (if ((bt228.2.2 == 0) != bt233.2) = true then (haywainlaw02_CodeTakes.j0 k l0 bt228.2.1 bt233.2 bt241.2.1 bt246.2.1 bt246.2.2 true) else (if ((bt241.2.2 == 0) != bt246.2.2) = true then (haywainlaw02_CodeTakes.j0 k l0 bt228.2.1 bt233.2 bt241.2.1 bt246.2.1 bt246.2.2 true) else (if bt233.2 = true then (if bt246.2.2 = true then (haywainlaw02_CodeTakes.j0 k l0 bt228.2.1 bt233.2 bt241.2.1 bt246.2.1 bt246.2.2 false) else (haywainlaw02_CodeTakes.j0 k l0 bt228.2.1 bt233.2 bt241.2.1 bt246.2.1 bt246.2.2 (bt241.2.2 != 2))) else (if bt228.2.2 = 2 then (if bt246.2.2 = true then (haywainlaw02_CodeTakes.j0 k l0 bt228.2.1 bt233.2 bt241.2.1 bt246.2.1 bt246.2.2 false) else (haywainlaw02_CodeTakes.j0 k l0 bt228.2.1 bt233.2 bt241.2.1 bt246.2.1 bt246.2.2 (bt241.2.2 != 2))) else (haywainlaw02_CodeTakes.j0 k l0 bt228.2.1 bt233.2 bt241.2.1 bt246.2.1 bt246.2.2 true))))) else (haywainlaw02_CodeTakes.j0 k l0 bt228.2.1 bt233.2 bt241.2.1 bt246.2.1 bt246.2.2 true)) else (haywainlaw02_CodeTakes.j0 k l0 bt228.2.1 bt233.2 bt241.2.1 bt246.2.1 bt246.2.2 true)))) else (none))))) else (none))) = some r := by rw [if_neg (show ¬ (false = true) by decide)] at H; exact H
    clear H
    have H := H1
    clear H1
    obtain ⟨y222, hy222⟩ : ∃ y_ : List Int, y_ = (([] : List Int)) := ⟨_, rfl⟩
    replace H : (if y222.length + l0.length < 140737488355328 then ((code_TakeNum.f k (y222 ++ l0)).bind fun bt228 => ((haywainref02_TakeNum.f k l0).bind fun bt233 => ((some (([] : List Int) : List Int)).bind fun y235 => (if y235.length + l0.length < 140737488355328 then ((code_TakeText.f k (y235 ++ l0)).bind fun bt241 => ((haywainref02_TakeText.f k l0).bind fun bt246 => (if bt228.1 = bt233.1 then (if bt241.1.toList = bt246.1.toList then (if ((bt228.2.2 == 0) != bt233.2) = true then (haywainlaw02_CodeTakes.j0 k l0 bt228.2.1 bt233.2 bt241.2.1 bt246.2.1 bt246.2.2 true) else (if ((bt241.2.2 == 0) != bt246.2.2) = true then (haywainlaw02_CodeTakes.j0 k l0 bt228.2.1 bt233.2 bt241.2.1 bt246.2.1 bt246.2.2 true) else (if bt233.2 = true then (if bt246.2.2 = true then (haywainlaw02_CodeTakes.j0 k l0 bt228.2.1 bt233.2 bt241.2.1 bt246.2.1 bt246.2.2 false) else (haywainlaw02_CodeTakes.j0 k l0 bt228.2.1 bt233.2 bt241.2.1 bt246.2.1 bt246.2.2 (bt241.2.2 != 2))) else (if bt228.2.2 = 2 then (if bt246.2.2 = true then (haywainlaw02_CodeTakes.j0 k l0 bt228.2.1 bt233.2 bt241.2.1 bt246.2.1 bt246.2.2 false) else (haywainlaw02_CodeTakes.j0 k l0 bt228.2.1 bt233.2 bt241.2.1 bt246.2.1 bt246.2.2 (bt241.2.2 != 2))) else (haywainlaw02_CodeTakes.j0 k l0 bt228.2.1 bt233.2 bt241.2.1 bt246.2.1 bt246.2.2 true))))) else (haywainlaw02_CodeTakes.j0 k l0 bt228.2.1 bt233.2 bt241.2.1 bt246.2.1 bt246.2.2 true)) else (haywainlaw02_CodeTakes.j0 k l0 bt228.2.1 bt233.2 bt241.2.1 bt246.2.1 bt246.2.2 true)))) else (none))))) else (none)) = some r := by first | (rw [hy222]; with_reducible exact H) | (have H2_ := (Option.bind_some _ _).symm.trans H; rw [hy222]; with_reducible exact H2_) | (have H2_ := (Option.bind_some _ _).symm.trans H; with_reducible exact H2_) | with_reducible exact H | (rw [hy222]; exact H) | exact H
    have Ny222 := Aside0.mk hy222
    clear hy222
    by_cases c6 : y222.length + l0.length < 140737488355328
    · rw [if_pos c6] at H
      have LMc6 := Aside0.mk c6
      clear c6
      obtain ⟨y225, hy225⟩ : ∃ y_ : List Int, y_ = (y222 ++ l0) := ⟨_, rfl⟩
      replace H : ((code_TakeNum.f k y225).bind fun bt228 => ((haywainref02_TakeNum.f k l0).bind fun bt233 => ((some (([] : List Int) : List Int)).bind fun y235 => (if y235.length + l0.length < 140737488355328 then ((code_TakeText.f k (y235 ++ l0)).bind fun bt241 => ((haywainref02_TakeText.f k l0).bind fun bt246 => (if bt228.1 = bt233.1 then (if bt241.1.toList = bt246.1.toList then (if ((bt228.2.2 == 0) != bt233.2) = true then (haywainlaw02_CodeTakes.j0 k l0 bt228.2.1 bt233.2 bt241.2.1 bt246.2.1 bt246.2.2 true) else (if ((bt241.2.2 == 0) != bt246.2.2) = true then (haywainlaw02_CodeTakes.j0 k l0 bt228.2.1 bt233.2 bt241.2.1 bt246.2.1 bt246.2.2 true) else (if bt233.2 = true then (if bt246.2.2 = true then (haywainlaw02_CodeTakes.j0 k l0 bt228.2.1 bt233.2 bt241.2.1 bt246.2.1 bt246.2.2 false) else (haywainlaw02_CodeTakes.j0 k l0 bt228.2.1 bt233.2 bt241.2.1 bt246.2.1 bt246.2.2 (bt241.2.2 != 2))) else (if bt228.2.2 = 2 then (if bt246.2.2 = true then (haywainlaw02_CodeTakes.j0 k l0 bt228.2.1 bt233.2 bt241.2.1 bt246.2.1 bt246.2.2 false) else (haywainlaw02_CodeTakes.j0 k l0 bt228.2.1 bt233.2 bt241.2.1 bt246.2.1 bt246.2.2 (bt241.2.2 != 2))) else (haywainlaw02_CodeTakes.j0 k l0 bt228.2.1 bt233.2 bt241.2.1 bt246.2.1 bt246.2.2 true))))) else (haywainlaw02_CodeTakes.j0 k l0 bt228.2.1 bt233.2 bt241.2.1 bt246.2.1 bt246.2.2 true)) else (haywainlaw02_CodeTakes.j0 k l0 bt228.2.1 bt233.2 bt241.2.1 bt246.2.1 bt246.2.2 true)))) else (none))))) = some r := by first | (rw [hy225]; with_reducible exact H) | (have H2_ := (Option.bind_some _ _).symm.trans H; rw [hy225]; with_reducible exact H2_) | (have H2_ := (Option.bind_some _ _).symm.trans H; with_reducible exact H2_) | with_reducible exact H | (rw [hy225]; exact H) | exact H
      have Ny225 := Aside0.mk hy225
      clear hy225
      replace H := Option.bind_eq_some_iff.mp H
      obtain ⟨⟨t228, t229, t230⟩, A70, H⟩ := H
      replace H : ((haywainref02_TakeNum.f k l0).bind fun bt233 => ((some (([] : List Int) : List Int)).bind fun y235 => (if y235.length + l0.length < 140737488355328 then ((code_TakeText.f k (y235 ++ l0)).bind fun bt241 => ((haywainref02_TakeText.f k l0).bind fun bt246 => (if t228 = bt233.1 then (if bt241.1.toList = bt246.1.toList then (if ((t230 == 0) != bt233.2) = true then (haywainlaw02_CodeTakes.j0 k l0 t229 bt233.2 bt241.2.1 bt246.2.1 bt246.2.2 true) else (if ((bt241.2.2 == 0) != bt246.2.2) = true then (haywainlaw02_CodeTakes.j0 k l0 t229 bt233.2 bt241.2.1 bt246.2.1 bt246.2.2 true) else (if bt233.2 = true then (if bt246.2.2 = true then (haywainlaw02_CodeTakes.j0 k l0 t229 bt233.2 bt241.2.1 bt246.2.1 bt246.2.2 false) else (haywainlaw02_CodeTakes.j0 k l0 t229 bt233.2 bt241.2.1 bt246.2.1 bt246.2.2 (bt241.2.2 != 2))) else (if t230 = 2 then (if bt246.2.2 = true then (haywainlaw02_CodeTakes.j0 k l0 t229 bt233.2 bt241.2.1 bt246.2.1 bt246.2.2 false) else (haywainlaw02_CodeTakes.j0 k l0 t229 bt233.2 bt241.2.1 bt246.2.1 bt246.2.2 (bt241.2.2 != 2))) else (haywainlaw02_CodeTakes.j0 k l0 t229 bt233.2 bt241.2.1 bt246.2.1 bt246.2.2 true))))) else (haywainlaw02_CodeTakes.j0 k l0 t229 bt233.2 bt241.2.1 bt246.2.1 bt246.2.2 true)) else (haywainlaw02_CodeTakes.j0 k l0 t229 bt233.2 bt241.2.1 bt246.2.1 bt246.2.2 true)))) else (none)))) = some r := H
      have A7 := Aside0.mk A70
      clear A70
      replace H := Option.bind_eq_some_iff.mp H
      obtain ⟨⟨t233, t234⟩, A80, H⟩ := H
      replace H : ((some (([] : List Int) : List Int)).bind fun y235 => (if y235.length + l0.length < 140737488355328 then ((code_TakeText.f k (y235 ++ l0)).bind fun bt241 => ((haywainref02_TakeText.f k l0).bind fun bt246 => (if t228 = t233 then (if bt241.1.toList = bt246.1.toList then (if ((t230 == 0) != t234) = true then (haywainlaw02_CodeTakes.j0 k l0 t229 t234 bt241.2.1 bt246.2.1 bt246.2.2 true) else (if ((bt241.2.2 == 0) != bt246.2.2) = true then (haywainlaw02_CodeTakes.j0 k l0 t229 t234 bt241.2.1 bt246.2.1 bt246.2.2 true) else (if t234 = true then (if bt246.2.2 = true then (haywainlaw02_CodeTakes.j0 k l0 t229 t234 bt241.2.1 bt246.2.1 bt246.2.2 false) else (haywainlaw02_CodeTakes.j0 k l0 t229 t234 bt241.2.1 bt246.2.1 bt246.2.2 (bt241.2.2 != 2))) else (if t230 = 2 then (if bt246.2.2 = true then (haywainlaw02_CodeTakes.j0 k l0 t229 t234 bt241.2.1 bt246.2.1 bt246.2.2 false) else (haywainlaw02_CodeTakes.j0 k l0 t229 t234 bt241.2.1 bt246.2.1 bt246.2.2 (bt241.2.2 != 2))) else (haywainlaw02_CodeTakes.j0 k l0 t229 t234 bt241.2.1 bt246.2.1 bt246.2.2 true))))) else (haywainlaw02_CodeTakes.j0 k l0 t229 t234 bt241.2.1 bt246.2.1 bt246.2.2 true)) else (haywainlaw02_CodeTakes.j0 k l0 t229 t234 bt241.2.1 bt246.2.1 bt246.2.2 true)))) else (none))) = some r := H
      have A8 := Aside0.mk A80
      clear A80
      obtain ⟨y235, hy235⟩ : ∃ y_ : List Int, y_ = (([] : List Int)) := ⟨_, rfl⟩
      replace H : (if y235.length + l0.length < 140737488355328 then ((code_TakeText.f k (y235 ++ l0)).bind fun bt241 => ((haywainref02_TakeText.f k l0).bind fun bt246 => (if t228 = t233 then (if bt241.1.toList = bt246.1.toList then (if ((t230 == 0) != t234) = true then (haywainlaw02_CodeTakes.j0 k l0 t229 t234 bt241.2.1 bt246.2.1 bt246.2.2 true) else (if ((bt241.2.2 == 0) != bt246.2.2) = true then (haywainlaw02_CodeTakes.j0 k l0 t229 t234 bt241.2.1 bt246.2.1 bt246.2.2 true) else (if t234 = true then (if bt246.2.2 = true then (haywainlaw02_CodeTakes.j0 k l0 t229 t234 bt241.2.1 bt246.2.1 bt246.2.2 false) else (haywainlaw02_CodeTakes.j0 k l0 t229 t234 bt241.2.1 bt246.2.1 bt246.2.2 (bt241.2.2 != 2))) else (if t230 = 2 then (if bt246.2.2 = true then (haywainlaw02_CodeTakes.j0 k l0 t229 t234 bt241.2.1 bt246.2.1 bt246.2.2 false) else (haywainlaw02_CodeTakes.j0 k l0 t229 t234 bt241.2.1 bt246.2.1 bt246.2.2 (bt241.2.2 != 2))) else (haywainlaw02_CodeTakes.j0 k l0 t229 t234 bt241.2.1 bt246.2.1 bt246.2.2 true))))) else (haywainlaw02_CodeTakes.j0 k l0 t229 t234 bt241.2.1 bt246.2.1 bt246.2.2 true)) else (haywainlaw02_CodeTakes.j0 k l0 t229 t234 bt241.2.1 bt246.2.1 bt246.2.2 true)))) else (none)) = some r := by first | (rw [hy235]; with_reducible exact H) | (have H2_ := (Option.bind_some _ _).symm.trans H; rw [hy235]; with_reducible exact H2_) | (have H2_ := (Option.bind_some _ _).symm.trans H; with_reducible exact H2_) | with_reducible exact H | (rw [hy235]; exact H) | exact H
      have Ny235 := Aside0.mk hy235
      clear hy235
      by_cases c9 : y235.length + l0.length < 140737488355328
      · rw [if_pos c9] at H
        have LMc9 := Aside0.mk c9
        clear c9
        obtain ⟨y238, hy238⟩ : ∃ y_ : List Int, y_ = (y235 ++ l0) := ⟨_, rfl⟩
        replace H : ((code_TakeText.f k y238).bind fun bt241 => ((haywainref02_TakeText.f k l0).bind fun bt246 => (if t228 = t233 then (if bt241.1.toList = bt246.1.toList then (if ((t230 == 0) != t234) = true then (haywainlaw02_CodeTakes.j0 k l0 t229 t234 bt241.2.1 bt246.2.1 bt246.2.2 true) else (if ((bt241.2.2 == 0) != bt246.2.2) = true then (haywainlaw02_CodeTakes.j0 k l0 t229 t234 bt241.2.1 bt246.2.1 bt246.2.2 true) else (if t234 = true then (if bt246.2.2 = true then (haywainlaw02_CodeTakes.j0 k l0 t229 t234 bt241.2.1 bt246.2.1 bt246.2.2 false) else (haywainlaw02_CodeTakes.j0 k l0 t229 t234 bt241.2.1 bt246.2.1 bt246.2.2 (bt241.2.2 != 2))) else (if t230 = 2 then (if bt246.2.2 = true then (haywainlaw02_CodeTakes.j0 k l0 t229 t234 bt241.2.1 bt246.2.1 bt246.2.2 false) else (haywainlaw02_CodeTakes.j0 k l0 t229 t234 bt241.2.1 bt246.2.1 bt246.2.2 (bt241.2.2 != 2))) else (haywainlaw02_CodeTakes.j0 k l0 t229 t234 bt241.2.1 bt246.2.1 bt246.2.2 true))))) else (haywainlaw02_CodeTakes.j0 k l0 t229 t234 bt241.2.1 bt246.2.1 bt246.2.2 true)) else (haywainlaw02_CodeTakes.j0 k l0 t229 t234 bt241.2.1 bt246.2.1 bt246.2.2 true)))) = some r := by first | (rw [hy238]; with_reducible exact H) | (have H2_ := (Option.bind_some _ _).symm.trans H; rw [hy238]; with_reducible exact H2_) | (have H2_ := (Option.bind_some _ _).symm.trans H; with_reducible exact H2_) | with_reducible exact H | (rw [hy238]; exact H) | exact H
        have Ny238 := Aside0.mk hy238
        clear hy238
        replace H := Option.bind_eq_some_iff.mp H
        obtain ⟨⟨t241, t242, t243⟩, A100, H⟩ := H
        replace H : ((haywainref02_TakeText.f k l0).bind fun bt246 => (if t228 = t233 then (if t241.toList = bt246.1.toList then (if ((t230 == 0) != t234) = true then (haywainlaw02_CodeTakes.j0 k l0 t229 t234 t242 bt246.2.1 bt246.2.2 true) else (if ((t243 == 0) != bt246.2.2) = true then (haywainlaw02_CodeTakes.j0 k l0 t229 t234 t242 bt246.2.1 bt246.2.2 true) else (if t234 = true then (if bt246.2.2 = true then (haywainlaw02_CodeTakes.j0 k l0 t229 t234 t242 bt246.2.1 bt246.2.2 false) else (haywainlaw02_CodeTakes.j0 k l0 t229 t234 t242 bt246.2.1 bt246.2.2 (t243 != 2))) else (if t230 = 2 then (if bt246.2.2 = true then (haywainlaw02_CodeTakes.j0 k l0 t229 t234 t242 bt246.2.1 bt246.2.2 false) else (haywainlaw02_CodeTakes.j0 k l0 t229 t234 t242 bt246.2.1 bt246.2.2 (t243 != 2))) else (haywainlaw02_CodeTakes.j0 k l0 t229 t234 t242 bt246.2.1 bt246.2.2 true))))) else (haywainlaw02_CodeTakes.j0 k l0 t229 t234 t242 bt246.2.1 bt246.2.2 true)) else (haywainlaw02_CodeTakes.j0 k l0 t229 t234 t242 bt246.2.1 bt246.2.2 true))) = some r := H
        have A10 := Aside0.mk A100
        clear A100
        replace H := Option.bind_eq_some_iff.mp H
        obtain ⟨⟨t246, t247, t248⟩, A110, H⟩ := H
        replace H : (if t228 = t233 then (if t241.toList = t246.toList then (if ((t230 == 0) != t234) = true then (haywainlaw02_CodeTakes.j0 k l0 t229 t234 t242 t247 t248 true) else (if ((t243 == 0) != t248) = true then (haywainlaw02_CodeTakes.j0 k l0 t229 t234 t242 t247 t248 true) else (if t234 = true then (if t248 = true then (haywainlaw02_CodeTakes.j0 k l0 t229 t234 t242 t247 t248 false) else (haywainlaw02_CodeTakes.j0 k l0 t229 t234 t242 t247 t248 (t243 != 2))) else (if t230 = 2 then (if t248 = true then (haywainlaw02_CodeTakes.j0 k l0 t229 t234 t242 t247 t248 false) else (haywainlaw02_CodeTakes.j0 k l0 t229 t234 t242 t247 t248 (t243 != 2))) else (haywainlaw02_CodeTakes.j0 k l0 t229 t234 t242 t247 t248 true))))) else (haywainlaw02_CodeTakes.j0 k l0 t229 t234 t242 t247 t248 true)) else (haywainlaw02_CodeTakes.j0 k l0 t229 t234 t242 t247 t248 true)) = some r := H
        have A11 := Aside0.mk A110
        clear A110
        have HC12 := Aside0.mk H
        clear H
        go_enter Try.func8, Try.ntmps8
        go_upto_region 7 with (first | (go_at_call 10; (with_reducible refine (haywainlaw02_great.calls _ _ l0 false _ ?side1 ?side2 A2.out).mono ?_); (case side1 => repeat (first | exact HR0.out | (with_reducible refine Kd.C_alloc ?_ _) | (with_reducible refine Kd.C_drewN ?_ _) | (with_reducible refine Kd.C_drew ?_))); (case side2 => exact HC0.out); rintro e w' ⟨rfl, ⟨nd, rfl⟩⟩; (try first | exact ⟨rfl, _, World.drewN_drewN _ _ _⟩ | exact ⟨rfl, _, Eq.trans (World.drewN_drewN _ _ _) (congrArg (World.drewN _) (Nat.add_assoc _ _ _))⟩)) | ((with_reducible refine gate_dst (N := 18) rfl ?_); (try (refine gate_guard (by rfl) ?_; dsimp only)); refine Kd.R_lit (Kd.int .u8) _ 5 ?hg (N := 18) ?hd (xs := ([] : List Int)) (inner := []) (ok := fun _ => True) (okp := fun _ => True) ?hr ?hp (fun _ hk => hk) trivial (Below.refl _ _) (Nat.le_refl _) (by simp) ?_; (case hd => rfl); (case hg => rfl); (case hr => first | (go_simp; done) | (go_simp; rfl)); (case hp => exact (Reps.none _ _)); intro v223 w13 ho14 hb hg_ hnew_; clear hg_ hnew_; (first | rw [← Ny222.out] at ho14 | (simp only [Int.reduceToNat] at ho14; rw [← Ny222.out] at ho14)); have n0_ := Aside0.mk (Kd.R_lower ho14 (below_size (by repeat (first | (with_reducible first | exact HB.out | apply below_alloc | apply pw_below_drewN | apply below_drew1) | exact HB.out)))); have n1_ := Aside0.mk (below_step (by repeat (first | (with_reducible first | exact HB.out | apply below_alloc | apply pw_below_drewN | apply below_drew1) | exact HB.out)) hb); clear HB; have HO224 := n0_; have HB := n1_; clear n0_ n1_; clear hb ho14) | ((with_reducible refine gate_builtin (b := .append) (xs := #[.tmp 18, .tmp 19]) rfl ?_); (try (refine gate_guard (by rfl) ?_; dsimp only)); at_builtin; refine Kd.R_append_rows (Kd.int .u8) (w0 := w) w.heap.size rfl (.tmp 18) (.tmp 19) 22 5 (.int .u8 0) 1 rfl Try.underlying22 info5 rfl (by decide) (by omega) v223 y222 l0 _ _ _ (fun _ => True) (fun _ => False) rfl rfl ?aO ?aR (fun _ _ h => h) (fun _ h => h.elim) ?aF ?aB ?aS ?aL ?_; (case aR => repeat (first | exact (Kd.C_below HR0.out HB.out) | (with_reducible refine Kd.C_alloc ?_ _) | (with_reducible refine Kd.C_drewN ?_ _) | (with_reducible refine Kd.C_drew ?_))); (case aB => exact (by repeat (first | (with_reducible first | exact HB.out | apply below_alloc | apply pw_below_drewN | apply below_drew1) | exact HB.out))); (case aF => exact (fun _ _ => trivial)); (case aO => exact (by (with_reducible repeat (first | apply Kd.R_alloc | apply Kd.R_drewN | apply Kd.R_drew)); exact HO224.out)); (case aS => exact (below_size (by repeat (first | (with_reducible first | exact HB.out | apply below_alloc | apply pw_below_drewN | apply below_drew1) | exact HB.out)))); (case aL => have := LMc6.out; omega); intro v226 w15 ho hb hg hat; rw [← Ny225.out] at ho; have n0_ := Aside0.mk (hb); have n1_ := Aside0.mk (ho); clear HB; clear HO224; have HB := n0_; have HO227 := n1_; clear n0_ n1_; clear ho hb hg hat; obtain ⟨Ao16, co16, eo16⟩ := Kd.R_slice HO227.out; subst eo16) | (go_at_call 22; (with_reducible refine (code_TakeNum.calls k _ _ y225 t228 t229 t230 _ ?side1 ?side2 A7.out).mono ?_); (case side1 => repeat (first | exact (Kd.R_reads' HO227.out).2.2 | (with_reducible refine Kd.C_alloc ?_ _) | (with_reducible refine Kd.C_drewN ?_ _) | (with_reducible refine Kd.C_drew ?_))); (case side2 => exact (Kd.R_reads' HO227.out).2.1); rintro e w17 ⟨v231, rfl, ho0, hb⟩; have n0_ := Aside0.mk (Kd.R_elder' (by (with_reducible repeat (first | apply Kd.R_alloc | apply Kd.R_drewN | apply Kd.R_drew)); exact HO227.out) (Kd.R_base ho0) hb); have n1_ := Aside0.mk (Kd.R_lower (Kd.R_new' ho0 (Kd.R_lt (by (with_reducible repeat (first | apply Kd.R_alloc | apply Kd.R_drewN | apply Kd.R_drew)); exact HO227.out))) (below_size (by repeat (first | (with_reducible first | exact HB.out | apply below_alloc | apply pw_below_drewN | apply below_drew1) | exact HB.out)))); have n2_ := Aside0.mk (below_step (by repeat (first | (with_reducible first | exact HB.out | apply below_alloc | apply pw_below_drewN | apply below_drew1) | exact HB.out)) hb); clear HO227; clear HB; have HO227 := n0_; have HO232 := n1_; have HB := n2_; clear n0_ n1_ n2_; (try clear hb); (try clear hb2); (try clear hk); (try clear hi); (try clear ho0)) | (go_at_call 23; (with_reducible refine (haywainref02_TakeNum.calls k _ _ l0 t233 t234 _ ?side1 ?side2 A8.out).mono ?_); (case side1 => repeat (first | exact (Kd.C_below HR0.out HB.out) | (with_reducible refine Kd.C_alloc ?_ _) | (with_reducible refine Kd.C_drewN ?_ _) | (with_reducible refine Kd.C_drew ?_))); (case side2 => exact HC0.out); rintro e w' ⟨rfl, ⟨nd, rfl⟩⟩; (try first | exact ⟨rfl, _, World.drewN_drewN _ _ _⟩ | exact ⟨rfl, _, Eq.trans (World.drewN_drewN _ _ _) (congrArg (World.drewN _) (Nat.add_assoc _ _ _))⟩)) | ((with_reducible refine gate_dst (N := 31) rfl ?_); (try (refine gate_guard (by rfl) ?_; dsimp only)); refine Kd.R_lit (Kd.int .u8) _ 5 ?hg (N := 31) ?hd (xs := ([] : List Int)) (inner := []) (ok := fun _ => True) (okp := fun _ => True) ?hr ?hp (fun _ hk => hk) trivial (Below.refl _ _) (Nat.le_refl _) (by simp) ?_; (case hd => rfl); (case hg => rfl); (case hr => first | (go_simp; done) | (go_simp; rfl)); (case hp => exact (Reps.none _ _)); intro v236 w18 ho19 hb hg_ hnew_; clear hg_ hnew_; (first | rw [← Ny235.out] at ho19 | (simp only [Int.reduceToNat] at ho19; rw [← Ny235.out] at ho19)); have n0_ := Aside0.mk (Kd.R_elder' (by (with_reducible repeat (first | apply Kd.R_alloc | apply Kd.R_drewN | apply Kd.R_drew)); exact HO227.out) (Kd.R_base ho19) hb); have n1_ := Aside0.mk (Kd.R_elder' (by (with_reducible repeat (first | apply Kd.R_alloc | apply Kd.R_drewN | apply Kd.R_drew)); exact HO232.out) (Kd.R_base ho19) hb); have n2_ := Aside0.mk (Kd.R_lower (Kd.R_new' (Kd.R_new' ho19 (Kd.R_lt (by (with_reducible repeat (first | apply Kd.R_alloc | apply Kd.R_drewN | apply Kd.R_drew)); exact HO227.out))) (Kd.R_lt (by (with_reducible repeat (first | apply Kd.R_alloc | apply Kd.R_drewN | apply Kd.R_drew)); exact HO232.out))) (below_size (by repeat (first | (with_reducible first | exact HB.out | apply below_alloc | apply pw_below_drewN | apply below_drew1) | exact HB.out)))); have n3_ := Aside0.mk (below_step (by repeat (first | (with_reducible first | exact HB.out | apply below_alloc | apply pw_below_drewN | apply below_drew1) | exact HB.out)) hb); clear HO227; clear HO232; clear HB; have HO227 := n0_; have HO232 := n1_; have HO237 := n2_; have HB := n3_; clear n0_ n1_ n2_ n3_; clear hb ho19) | ((with_reducible refine gate_builtin (b := .append) (xs := #[.tmp 31, .tmp 32]) rfl ?_); (try (refine gate_guard (by rfl) ?_; dsimp only)); at_builtin; refine Kd.R_append_rows (Kd.int .u8) (w0 := w) w.heap.size rfl (.tmp 31) (.tmp 32) 22 5 (.int .u8 0) 1 rfl Try.underlying22 info5 rfl (by decide) (by omega) v236 y235 l0 _ _ _ (fun k_ => some k_ ≠ (.slice Ao16 y225.length co16 : Value).ownBlock ∧ some k_ ≠ (v231 : Value).ownBlock) (fun _ => False) rfl rfl ?aO ?aR (fun _ _ h => h) (fun _ h => h.elim) ?aF ?aB ?aS ?aL ?_; (case aR => repeat (first | exact (Kd.C_below HR0.out HB.out) | (with_reducible refine Kd.C_alloc ?_ _) | (with_reducible refine Kd.C_drewN ?_ _) | (with_reducible refine Kd.C_drew ?_))); (case aB => exact (by repeat (first | (with_reducible first | exact HB.out | apply below_alloc | apply pw_below_drewN | apply below_drew1) | exact HB.out))); (case aF => exact (fun k_ hk => ⟨Kd.fresh' (Kd.R_lt (by (with_reducible repeat (first | apply Kd.R_alloc | apply Kd.R_drewN | apply Kd.R_drew)); exact HO227.out)) k_ hk, Kd.fresh' (Kd.R_lt (by (with_reducible repeat (first | apply Kd.R_alloc | apply Kd.R_drewN | apply Kd.R_drew)); exact HO232.out)) k_ hk⟩)); (case aO => exact (by (with_reducible repeat (first | apply Kd.R_alloc | apply Kd.R_drewN | apply Kd.R_drew)); exact Kd.R_mono HO237.out (fun _ hk => ⟨hk.1.2, hk.2⟩))); (case aS => exact (below_size (by repeat (first | (with_reducible first | exact HB.out | apply below_alloc | apply pw_below_drewN | apply below_drew1) | exact HB.out)))); (case aL => have := LMc9.out; omega); intro v239 w20 ho hb hg hat; rw [← Ny238.out] at ho; have n0_ := Aside0.mk (Kd.R_after (ok := (fun k_ => some k_ ≠ (v231 : Value).ownBlock)) (by (with_reducible repeat (first | apply Kd.R_alloc | apply Kd.R_drewN | apply Kd.R_drew)); exact Kd.R_mono HO227.out (fun _ hk => ⟨hk.1.2, hk.2⟩)) hg hat); have n1_ := Aside0.mk (Kd.R_after (ok := (fun k_ => some k_ ≠ (.slice Ao16 y225.length co16 : Value).ownBlock)) (by (with_reducible repeat (first | apply Kd.R_alloc | apply Kd.R_drewN | apply Kd.R_drew)); exact Kd.R_mono HO232.out (fun _ hk => ⟨hk.1.2, hk.2⟩)) hg hat); have n2_ := Aside0.mk (hb); have n3_ := Aside0.mk (ho); clear HO227; clear HO232; clear HB; clear HO237; have HO227 := n0_; have HO232 := n1_; have HB := n2_; have HO240 := n3_; clear n0_ n1_ n2_ n3_; clear ho hb hg hat; obtain ⟨Ao21, co21, eo21⟩ := Kd.R_slice HO240.out; subst eo21) | (go_at_call 24; (with_reducible refine (code_TakeText.calls k _ _ y238 t241 t242 t243 _ ?side1 ?side2 A10.out).mono ?_); (case side1 => repeat (first | exact (Kd.R_reads' HO240.out).2.2 | (with_reducible refine Kd.C_alloc ?_ _) | (with_reducible refine Kd.C_drewN ?_ _) | (with_reducible refine Kd.C_drew ?_))); (case side2 => exact (Kd.R_reads' HO240.out).2.1); rintro e w22 ⟨v244, rfl, ho0, hb⟩; have n0_ := Aside0.mk (Kd.R_elder' (by (with_reducible repeat (first | apply Kd.R_alloc | apply Kd.R_drewN | apply Kd.R_drew)); exact HO227.out) (Kd.Q_base ho0) hb); have n1_ := Aside0.mk (Kd.R_elder' (by (with_reducible repeat (first | apply Kd.R_alloc | apply Kd.R_drewN | apply Kd.R_drew)); exact HO232.out) (Kd.Q_base ho0) hb); have n2_ := Aside0.mk (Kd.R_elder' (by (with_reducible repeat (first | apply Kd.R_alloc | apply Kd.R_drewN | apply Kd.R_drew)); exact HO240.out) (Kd.Q_base ho0) hb); have n3_ := Aside0.mk (Kd.Q_lower (Kd.Q_new' (Kd.Q_new' (Kd.Q_new' ho0 (Kd.R_lt (by (with_reducible repeat (first | apply Kd.R_alloc | apply Kd.R_drewN | apply Kd.R_drew)); exact HO227.out))) (Kd.R_lt (by (with_reducible repeat (first | apply Kd.R_alloc | apply Kd.R_drewN | apply Kd.R_drew)); exact HO232.out))) (Kd.R_lt (by (with_reducible repeat (first | apply Kd.R_alloc | apply Kd.R_drewN | apply Kd.R_drew)); exact HO240.out))) (below_size (by repeat (first | (with_reducible first | exact HB.out | apply below_alloc | apply pw_below_drewN | apply below_drew1) | exact HB.out)))); have n4_ := Aside0.mk (below_step (by repeat (first | (with_reducible first | exact HB.out | apply below_alloc | apply pw_below_drewN | apply below_drew1) | exact HB.out)) hb); clear HO227; clear HO232; clear HO240; clear HB; have HO227 := n0_; have HO232 := n1_; have HO240 := n2_; have HO245 := n3_; have HB := n4_; clear n0_ n1_ n2_ n3_ n4_; (try clear hb); (try clear hb2); (try clear hk); (try clear hi); (try clear ho0)) | (go_at_call 25; (with_reducible refine (haywainref02_TakeText.calls k _ _ l0 t246 t247 t248 _ ?side1 ?side2 A11.out).mono ?_); (case side1 => repeat (first | exact (Kd.C_below HR0.out HB.out) | (with_reducible refine Kd.C_alloc ?_ _) | (with_reducible refine Kd.C_drewN ?_ _) | (with_reducible refine Kd.C_drew ?_))); (case side2 => exact HC0.out); rintro e w' ⟨rfl, ⟨nd, rfl⟩⟩; (try first | exact ⟨rfl, _, World.drewN_drewN _ _ _⟩ | exact ⟨rfl, _, Eq.trans (World.drewN_drewN _ _ _) (congrArg (World.drewN _) (Nat.add_assoc _ _ _))⟩)))
        repeat (go_quiet (first | (go_at_call 10; (with_reducible refine (haywainlaw02_great.calls _ _ l0 false _ ?side1 ?side2 A2.out).mono ?_); (case side1 => repeat (first | exact HR0.out | (with_reducible refine Kd.C_alloc ?_ _) | (with_reducible refine Kd.C_drewN ?_ _) | (with_reducible refine Kd.C_drew ?_))); (case side2 => exact HC0.out); rintro e w' ⟨rfl, ⟨nd, rfl⟩⟩; (try first | exact ⟨rfl, _, World.drewN_drewN _ _ _⟩ | exact ⟨rfl, _, Eq.trans (World.drewN_drewN _ _ _) (congrArg (World.drewN _) (Nat.add_assoc _ _ _))⟩)) | ((with_reducible refine gate_dst (N := 18) rfl ?_); (try (refine gate_guard (by rfl) ?_; dsimp only)); refine Kd.R_lit (Kd.int .u8) _ 5 ?hg (N := 18) ?hd (xs := ([] : List Int)) (inner := []) (ok := fun _ => True) (okp := fun _ => True) ?hr ?hp (fun _ hk => hk) trivial (Below.refl _ _) (Nat.le_refl _) (by simp) ?_; (case hd => rfl); (case hg => rfl); (case hr => first | (go_simp; done) | (go_simp; rfl)); (case hp => exact (Reps.none _ _)); intro v223 w13 ho14 hb hg_ hnew_; clear hg_ hnew_; (first | rw [← Ny222.out] at ho14 | (simp only [Int.reduceToNat] at ho14; rw [← Ny222.out] at ho14)); have n0_ := Aside0.mk (Kd.R_lower ho14 (below_size (by repeat (first | (with_reducible first | exact HB.out | apply below_alloc | apply pw_below_drewN | apply below_drew1) | exact HB.out)))); have n1_ := Aside0.mk (below_step (by repeat (first | (with_reducible first | exact HB.out | apply below_alloc | apply pw_below_drewN | apply below_drew1) | exact HB.out)) hb); clear HB; have HO224 := n0_; have HB := n1_; clear n0_ n1_; clear hb ho14) | ((with_reducible refine gate_builtin (b := .append) (xs := #[.tmp 18, .tmp 19]) rfl ?_); (try (refine gate_guard (by rfl) ?_; dsimp only)); at_builtin; refine Kd.R_append_rows (Kd.int .u8) (w0 := w) w.heap.size rfl (.tmp 18) (.tmp 19) 22 5 (.int .u8 0) 1 rfl Try.underlying22 info5 rfl (by decide) (by omega) v223 y222 l0 _ _ _ (fun _ => True) (fun _ => False) rfl rfl ?aO ?aR (fun _ _ h => h) (fun _ h => h.elim) ?aF ?aB ?aS ?aL ?_; (case aR => repeat (first | exact (Kd.C_below HR0.out HB.out) | (with_reducible refine Kd.C_alloc ?_ _) | (with_reducible refine Kd.C_drewN ?_ _) | (with_reducible refine Kd.C_drew ?_))); (case aB => exact (by repeat (first | (with_reducible first | exact HB.out | apply below_alloc | apply pw_below_drewN | apply below_drew1) | exact HB.out))); (case aF => exact (fun _ _ => trivial)); (case aO => exact (by (with_reducible repeat (first | apply Kd.R_alloc | apply Kd.R_drewN | apply Kd.R_drew)); exact HO224.out)); (case aS => exact (below_size (by repeat (first | (with_reducible first | exact HB.out | apply below_alloc | apply pw_below_drewN | apply below_drew1) | exact HB.out)))); (case aL => have := LMc6.out; omega); intro v226 w15 ho hb hg hat; rw [← Ny225.out] at ho; have n0_ := Aside0.mk (hb); have n1_ := Aside0.mk (ho); clear HB; clear HO224; have HB := n0_; have HO227 := n1_; clear n0_ n1_; clear ho hb hg hat; obtain ⟨Ao16, co16, eo16⟩ := Kd.R_slice HO227.out; subst eo16) | (go_at_call 22; (with_reducible refine (code_TakeNum.calls k _ _ y225 t228 t229 t230 _ ?side1 ?side2 A7.out).mono ?_); (case side1 => repeat (first | exact (Kd.R_reads' HO227.out).2.2 | (with_reducible refine Kd.C_alloc ?_ _) | (with_reducible refine Kd.C_drewN ?_ _) | (with_reducible refine Kd.C_drew ?_))); (case side2 => exact (Kd.R_reads' HO227.out).2.1); rintro e w17 ⟨v231, rfl, ho0, hb⟩; have n0_ := Aside0.mk (Kd.R_elder' (by (with_reducible repeat (first | apply Kd.R_alloc | apply Kd.R_drewN | apply Kd.R_drew)); exact HO227.out) (Kd.R_base ho0) hb); have n1_ := Aside0.mk (Kd.R_lower (Kd.R_new' ho0 (Kd.R_lt (by (with_reducible repeat (first | apply Kd.R_alloc | apply Kd.R_drewN | apply Kd.R_drew)); exact HO227.out))) (below_size (by repeat (first | (with_reducible first | exact HB.out | apply below_alloc | apply pw_below_drewN | apply below_drew1) | exact HB.out)))); have n2_ := Aside0.mk (below_step (by repeat (first | (with_reducible first | exact HB.out | apply below_alloc | apply pw_below_drewN | apply below_drew1) | exact HB.out)) hb); clear HO227; clear HB; have HO227 := n0_; have HO232 := n1_; have HB := n2_; clear n0_ n1_ n2_; (try clear hb); (try clear hb2); (try clear hk); (try clear hi); (try clear ho0)) | (go_at_call 23; (with_reducible refine (haywainref02_TakeNum.calls k _ _ l0 t233 t234 _ ?side1 ?side2 A8.out).mono ?_); (case side1 => repeat (first | exact (Kd.C_below HR0.out HB.out) | (with_reducible refine Kd.C_alloc ?_ _) | (with_reducible refine Kd.C_drewN ?_ _) | (with_reducible refine Kd.C_drew ?_))); (case side2 => exact HC0.out); rintro e w' ⟨rfl, ⟨nd, rfl⟩⟩; (try first | exact ⟨rfl, _, World.drewN_drewN _ _ _⟩ | exact ⟨rfl, _, Eq.trans (World.drewN_drewN _ _ _) (congrArg (World.drewN _) (Nat.add_assoc _ _ _))⟩)) | ((with_reducible refine gate_dst (N := 31) rfl ?_); (try (refine gate_guard (by rfl) ?_; dsimp only)); refine Kd.R_lit (Kd.int .u8) _ 5 ?hg (N := 31) ?hd (xs := ([] : List Int)) (inner := []) (ok := fun _ => True) (okp := fun _ => True) ?hr ?hp (fun _ hk => hk) trivial (Below.refl _ _) (Nat.le_refl _) (by simp) ?_; (case hd => rfl); (case hg => rfl); (case hr => first | (go_simp; done) | (go_simp; rfl)); (case hp => exact (Reps.none _ _)); intro v236 w18 ho19 hb hg_ hnew_; clear hg_ hnew_; (first | rw [← Ny235.out] at ho19 | (simp only [Int.reduceToNat] at ho19; rw [← Ny235.out] at ho19)); have n0_ := Aside0.mk (Kd.R_elder' (by (with_reducible repeat (first | apply Kd.R_alloc | apply Kd.R_drewN | apply Kd.R_drew)); exact HO227.out) (Kd.R_base ho19) hb); have n1_ := Aside0.mk (Kd.R_elder' (by (with_reducible repeat (first | apply Kd.R_alloc | apply Kd.R_drewN | apply Kd.R_drew)); exact HO232.out) (Kd.R_base ho19) hb); have n2_ := Aside0.mk (Kd.R_lower (Kd.R_new' (Kd.R_new' ho19 (Kd.R_lt (by (with_reducible repeat (first | apply Kd.R_alloc | apply Kd.R_drewN | apply Kd.R_drew)); exact HO227.out))) (Kd.R_lt (by (with_reducible repeat (first | apply Kd.R_alloc | apply Kd.R_drewN | apply Kd.R_drew)); exact HO232.out))) (below_size (by repeat (first | (with_reducible first | exact HB.out | apply below_alloc | apply pw_below_drewN | apply below_drew1) | exact HB.out)))); have n3_ := Aside0.mk (below_step (by repeat (first | (with_reducible first | exact HB.out | apply below_alloc | apply pw_below_drewN | apply below_drew1) | exact HB.out)) hb); clear HO227; clear HO232; clear HB; have HO227 := n0_; have HO232 := n1_; have HO237 := n2_; have HB := n3_; clear n0_ n1_ n2_ n3_; clear hb ho19) | ((with_reducible refine gate_builtin (b := .append) (xs := #[.tmp 31, .tmp 32]) rfl ?_); (try (refine gate_guard (by rfl) ?_; dsimp only)); at_builtin; refine Kd.R_append_rows (Kd.int .u8) (w0 := w) w.heap.size rfl (.tmp 31) (.tmp 32) 22 5 (.int .u8 0) 1 rfl Try.underlying22 info5 rfl (by decide) (by omega) v236 y235 l0 _ _ _ (fun k_ => some k_ ≠ (.slice Ao16 y225.length co16 : Value).ownBlock ∧ some k_ ≠ (v231 : Value).ownBlock) (fun _ => False) rfl rfl ?aO ?aR (fun _ _ h => h) (fun _ h => h.elim) ?aF ?aB ?aS ?aL ?_; (case aR => repeat (first | exact (Kd.C_below HR0.out HB.out) | (with_reducible refine Kd.C_alloc ?_ _) | (with_reducible refine Kd.C_drewN ?_ _) | (with_reducible refine Kd.C_drew ?_))); (case aB => exact (by repeat (first | (with_reducible first | exact HB.out | apply below_alloc | apply pw_below_drewN | apply below_drew1) | exact HB.out))); (case aF => exact (fun k_ hk => ⟨Kd.fresh' (Kd.R_lt (by (with_reducible repeat (first | apply Kd.R_alloc | apply Kd.R_drewN | apply Kd.R_drew)); exact HO227.out)) k_ hk, Kd.fresh' (Kd.R_lt (by (with_reducible repeat (first | apply Kd.R_alloc | apply Kd.R_drewN | apply Kd.R_drew)); exact HO232.out)) k_ hk⟩)); (case aO => exact (by (with_reducible repeat (first | apply Kd.R_alloc | apply Kd.R_drewN | apply Kd.R_drew)); exact Kd.R_mono HO237.out (fun _ hk => ⟨hk.1.2, hk.2⟩))); (case aS => exact (below_size (by repeat (first | (with_reducible first | exact HB.out | apply below_alloc | apply pw_below_drewN | apply below_drew1) | exact HB.out)))); (case aL => have := LMc9.out; omega); intro v239 w20 ho hb hg hat; rw [← Ny238.out] at ho; have n0_ := Aside0.mk (Kd.R_after (ok := (fun k_ => some k_ ≠ (v231 : Value).ownBlock)) (by (with_reducible repeat (first | apply Kd.R_alloc | apply Kd.R_drewN | apply Kd.R_drew)); exact Kd.R_mono HO227.out (fun _ hk => ⟨hk.1.2, hk.2⟩)) hg hat); have n1_ := Aside0.mk (Kd.R_after (ok := (fun k_ => some k_ ≠ (.slice Ao16 y225.length co16 : Value).ownBlock)) (by (with_reducible repeat (first | apply Kd.R_alloc | apply Kd.R_drewN | apply Kd.R_drew)); exact Kd.R_mono HO232.out (fun _ hk => ⟨hk.1.2, hk.2⟩)) hg hat); have n2_ := Aside0.mk (hb); have n3_ := Aside0.mk (ho); clear HO227; clear HO232; clear HB; clear HO237; have HO227 := n0_; have HO232 := n1_; have HB := n2_; have HO240 := n3_; clear n0_ n1_ n2_ n3_; clear ho hb hg hat; obtain ⟨Ao21, co21, eo21⟩ := Kd.R_slice HO240.out; subst eo21) | (go_at_call 24; (with_reducible refine (code_TakeText.calls k _ _ y238 t241 t242 t243 _ ?side1 ?side2 A10.out).mono ?_); (case side1 => repeat (first | exact (Kd.R_reads' HO240.out).2.2 | (with_reducible refine Kd.C_alloc ?_ _) | (with_reducible refine Kd.C_drewN ?_ _) | (with_reducible refine Kd.C_drew ?_))); (case side2 => exact (Kd.R_reads' HO240.out).2.1); rintro e w22 ⟨v244, rfl, ho0, hb⟩; have n0_ := Aside0.mk (Kd.R_elder' (by (with_reducible repeat (first | apply Kd.R_alloc | apply Kd.R_drewN | apply Kd.R_drew)); exact HO227.out) (Kd.Q_base ho0) hb); have n1_ := Aside0.mk (Kd.R_elder' (by (with_reducible repeat (first | apply Kd.R_alloc | apply Kd.R_drewN | apply Kd.R_drew)); exact HO232.out) (Kd.Q_base ho0) hb); have n2_ := Aside0.mk (Kd.R_elder' (by (with_reducible repeat (first | apply Kd.R_alloc | apply Kd.R_drewN | apply Kd.R_drew)); exact HO240.out) (Kd.Q_base ho0) hb); have n3_ := Aside0.mk (Kd.Q_lower (Kd.Q_new' (Kd.Q_new' (Kd.Q_new' ho0 (Kd.R_lt (by (with_reducible repeat (first | apply Kd.R_alloc | apply Kd.R_drewN | apply Kd.R_drew)); exact HO227.out))) (Kd.R_lt (by (with_reducible repeat (first | apply Kd.R_alloc | apply Kd.R_drewN | apply Kd.R_drew)); exact HO232.out))) (Kd.R_lt (by (with_reducible repeat (first | apply Kd.R_alloc | apply Kd.R_drewN | apply Kd.R_drew)); exact HO240.out))) (below_size (by repeat (first | (with_reducible first | exact HB.out | apply below_alloc | apply pw_below_drewN | apply below_drew1) | exact HB.out)))); have n4_ := Aside0.mk (below_step (by repeat (first | (with_reducible first | exact HB.out | apply below_alloc | apply pw_below_drewN | apply below_drew1) | exact HB.out)) hb); clear HO227; clear HO232; clear HO240; clear HB; have HO227 := n0_; have HO232 := n1_; have HO240 := n2_; have HO245 := n3_; have HB := n4_; clear n0_ n1_ n2_ n3_ n4_; (try clear hb); (try clear hb2); (try clear hk); (try clear hi); (try clear ho0)) | (go_at_call 25; (with_reducible refine (haywainref02_TakeText.calls k _ _ l0 t246 t247 t248 _ ?side1 ?side2 A11.out).mono ?_); (case side1 => repeat (first | exact (Kd.C_below HR0.out HB.out) | (with_reducible refine Kd.C_alloc ?_ _) | (with_reducible refine Kd.C_drewN ?_ _) | (with_reducible refine Kd.C_drew ?_))); (case side2 => exact HC0.out); rintro e w' ⟨rfl, ⟨nd, rfl⟩⟩; (try first | exact ⟨rfl, _, World.drewN_drewN _ _ _⟩ | exact ⟨rfl, _, Eq.trans (World.drewN_drewN _ _ _) (congrArg (World.drewN _) (Nat.add_assoc _ _ _))⟩))); go_upto_region 7 with (first | (go_at_call 10; (with_reducible refine (haywainlaw02_great.calls _ _ l0 false _ ?side1 ?side2 A2.out).mono ?_); (case side1 => repeat (first | exact HR0.out | (with_reducible refine Kd.C_alloc ?_ _) | (with_reducible refine Kd.C_drewN ?_ _) | (with_reducible refine Kd.C_drew ?_))); (case side2 => exact HC0.out); rintro e w' ⟨rfl, ⟨nd, rfl⟩⟩; (try first | exact ⟨rfl, _, World.drewN_drewN _ _ _⟩ | exact ⟨rfl, _, Eq.trans (World.drewN_drewN _ _ _) (congrArg (World.drewN _) (Nat.add_assoc _ _ _))⟩)) | ((with_reducible refine gate_dst (N := 18) rfl ?_); (try (refine gate_guard (by rfl) ?_; dsimp only)); refine Kd.R_lit (Kd.int .u8) _ 5 ?hg (N := 18) ?hd (xs := ([] : List Int)) (inner := []) (ok := fun _ => True) (okp := fun _ => True) ?hr ?hp (fun _ hk => hk) trivial (Below.refl _ _) (Nat.le_refl _) (by simp) ?_; (case hd => rfl); (case hg => rfl); (case hr => first | (go_simp; done) | (go_simp; rfl)); (case hp => exact (Reps.none _ _)); intro v223 w13 ho14 hb hg_ hnew_; clear hg_ hnew_; (first | rw [← Ny222.out] at ho14 | (simp only [Int.reduceToNat] at ho14; rw [← Ny222.out] at ho14)); have n0_ := Aside0.mk (Kd.R_lower ho14 (below_size (by repeat (first | (with_reducible first | exact HB.out | apply below_alloc | apply pw_below_drewN | apply below_drew1) | exact HB.out)))); have n1_ := Aside0.mk (below_step (by repeat (first | (with_reducible first | exact HB.out | apply below_alloc | apply pw_below_drewN | apply below_drew1) | exact HB.out)) hb); clear HB; have HO224 := n0_; have HB := n1_; clear n0_ n1_; clear hb ho14) | ((with_reducible refine gate_builtin (b := .append) (xs := #[.tmp 18, .tmp 19]) rfl ?_); (try (refine gate_guard (by rfl) ?_; dsimp only)); at_builtin; refine Kd.R_append_rows (Kd.int .u8) (w0 := w) w.heap.size rfl (.tmp 18) (.tmp 19) 22 5 (.int .u8 0) 1 rfl Try.underlying22 info5 rfl (by decide) (by omega) v223 y222 l0 _ _ _ (fun _ => True) (fun _ => False) rfl rfl ?aO ?aR (fun _ _ h => h) (fun _ h => h.elim) ?aF ?aB ?aS ?aL ?_; (case aR => repeat (first | exact (Kd.C_below HR0.out HB.out) | (with_reducible refine Kd.C_alloc ?_ _) | (with_reducible refine Kd.C_drewN ?_ _) | (with_reducible refine Kd.C_drew ?_))); (case aB => exact (by repeat (first | (with_reducible first | exact HB.out | apply below_alloc | apply pw_below_drewN | apply below_drew1) | exact HB.out))); (case aF => exact (fun _ _ => trivial)); (case aO => exact (by (with_reducible repeat (first | apply Kd.R_alloc | apply Kd.R_drewN | apply Kd.R_drew)); exact HO224.out)); (case aS => exact (below_size (by repeat (first | (with_reducible first | exact HB.out | apply below_alloc | apply pw_below_drewN | apply below_drew1) | exact HB.out)))); (case aL => have := LMc6.out; omega); intro v226 w15 ho hb hg hat; rw [← Ny225.out] at ho; have n0_ := Aside0.mk (hb); have n1_ := Aside0.mk (ho); clear HB; clear HO224; have HB := n0_; have HO227 := n1_; clear n0_ n1_; clear ho hb hg hat; obtain ⟨Ao16, co16, eo16⟩ := Kd.R_slice HO227.out; subst eo16) | (go_at_call 22; (with_reducible refine (code_TakeNum.calls k _ _ y225 t228 t229 t230 _ ?side1 ?side2 A7.out).mono ?_); (case side1 => repeat (first | exact (Kd.R_reads' HO227.out).2.2 | (with_reducible refine Kd.C_alloc ?_ _) | (with_reducible refine Kd.C_drewN ?_ _) | (with_reducible refine Kd.C_drew ?_))); (case side2 => exact (Kd.R_reads' HO227.out).2.1); rintro e w17 ⟨v231, rfl, ho0, hb⟩; have n0_ := Aside0.mk (Kd.R_elder' (by (with_reducible repeat (first | apply Kd.R_alloc | apply Kd.R_drewN | apply Kd.R_drew)); exact HO227.out) (Kd.R_base ho0) hb); have n1_ := Aside0.mk (Kd.R_lower (Kd.R_new' ho0 (Kd.R_lt (by (with_reducible repeat (first | apply Kd.R_alloc | apply Kd.R_drewN | apply Kd.R_drew)); exact HO227.out))) (below_size (by repeat (first | (with_reducible first | exact HB.out | apply below_alloc | apply pw_below_drewN | apply below_drew1) | exact HB.out)))); have n2_ := Aside0.mk (below_step (by repeat (first | (with_reducible first | exact HB.out | apply below_alloc | apply pw_below_drewN | apply below_drew1) | exact HB.out)) hb); clear HO227; clear HB; have HO227 := n0_; have HO232 := n1_; have HB := n2_; clear n0_ n1_ n2_; (try clear hb); (try clear hb2); (try clear hk); (try clear hi); (try clear ho0)) | (go_at_call 23; (with_reducible refine (haywainref02_TakeNum.calls k _ _ l0 t233 t234 _ ?side1 ?side2 A8.out).mono ?_); (case side1 => repeat (first | exact (Kd.C_below HR0.out HB.out) | (with_reducible refine Kd.C_alloc ?_ _) | (with_reducible refine Kd.C_drewN ?_ _) | (with_reducible refine Kd.C_drew ?_))); (case side2 => exact HC0.out); rintro e w' ⟨rfl, ⟨nd, rfl⟩⟩; (try first | exact ⟨rfl, _, World.drewN_drewN _ _ _⟩ | exact ⟨rfl, _, Eq.trans (World.drewN_drewN _ _ _) (congrArg (World.drewN _) (Nat.add_assoc _ _ _))⟩)) | ((with_reducible refine gate_dst (N := 31) rfl ?_); (try (refine gate_guard (by rfl) ?_; dsimp only)); refine Kd.R_lit (Kd.int .u8) _ 5 ?hg (N := 31) ?hd (xs := ([] : List Int)) (inner := []) (ok := fun _ => True) (okp := fun _ => True) ?hr ?hp (fun _ hk => hk) trivial (Below.refl _ _) (Nat.le_refl _) (by simp) ?_; (case hd => rfl); (case hg => rfl); (case hr => first | (go_simp; done) | (go_simp; rfl)); (case hp => exact (Reps.none _ _)); intro v236 w18 ho19 hb hg_ hnew_; clear hg_ hnew_; (first | rw [← Ny235.out] at ho19 | (simp only [Int.reduceToNat] at ho19; rw [← Ny235.out] at ho19)); have n0_ := Aside0.mk (Kd.R_elder' (by (with_reducible repeat (first | apply Kd.R_alloc | apply Kd.R_drewN | apply Kd.R_drew)); exact HO227.out) (Kd.R_base ho19) hb); have n1_ := Aside0.mk (Kd.R_elder' (by (with_reducible repeat (first | apply Kd.R_alloc | apply Kd.R_drewN | apply Kd.R_drew)); exact HO232.out) (Kd.R_base ho19) hb); have n2_ := Aside0.mk (Kd.R_lower (Kd.R_new' (Kd.R_new' ho19 (Kd.R_lt (by (with_reducible repeat (first | apply Kd.R_alloc | apply Kd.R_drewN | apply Kd.R_drew)); exact HO227.out))) (Kd.R_lt (by (with_reducible repeat (first | apply Kd.R_alloc | apply Kd.R_drewN | apply Kd.R_drew)); exact HO232.out))) (below_size (by repeat (first | (with_reducible first | exact HB.out | apply below_alloc | apply pw_below_drewN | apply below_drew1) | exact HB.out)))); have n3_ := Aside0.mk (below_step (by repeat (first | (with_reducible first | exact HB.out | apply below_alloc | apply pw_below_drewN | apply below_drew1) | exact HB.out)) hb); clear HO227; clear HO232; clear HB; have HO227 := n0_; have HO232 := n1_; have HO237 := n2_; have HB := n3_; clear n0_ n1_ n2_ n3_; clear hb ho19) | ((with_reducible refine gate_builtin (b := .append) (xs := #[.tmp 31, .tmp 32]) rfl ?_); (try (refine gate_guard (by rfl) ?_; dsimp only)); at_builtin; refine Kd.R_append_rows (Kd.int .u8) (w0 := w) w.heap.size rfl (.tmp 31) (.tmp 32) 22 5 (.int .u8 0) 1 rfl Try.underlying22 info5 rfl (by decide) (by omega) v236 y235 l0 _ _ _ (fun k_ => some k_ ≠ (.slice Ao16 y225.length co16 : Value).ownBlock ∧ some k_ ≠ (v231 : Value).ownBlock) (fun _ => False) rfl rfl ?aO ?aR (fun _ _ h => h) (fun _ h => h.elim) ?aF ?aB ?aS ?aL ?_; (case aR => repeat (first | exact (Kd.C_below HR0.out HB.out) | (with_reducible refine Kd.C_alloc ?_ _) | (with_reducible refine Kd.C_drewN ?_ _) | (with_reducible refine Kd.C_drew ?_))); (case aB => exact (by repeat (first | (with_reducible first | exact HB.out | apply below_alloc | apply pw_below_drewN | apply below_drew1) | exact HB.out))); (case aF => exact (fun k_ hk => ⟨Kd.fresh' (Kd.R_lt (by (with_reducible repeat (first | apply Kd.R_alloc | apply Kd.R_drewN | apply Kd.R_drew)); exact HO227.out)) k_ hk, Kd.fresh' (Kd.R_lt (by (with_reducible repeat (first | apply Kd.R_alloc | apply Kd.R_drewN | apply Kd.R_drew)); exact HO232.out)) k_ hk⟩)); (case aO => exact (by (with_reducible repeat (first | apply Kd.R_alloc | apply Kd.R_drewN | apply Kd.R_drew)); exact Kd.R_mono HO237.out (fun _ hk => ⟨hk.1.2, hk.2⟩))); (case aS => exact (below_size (by repeat (first | (with_reducible first | exact HB.out | apply below_alloc | apply pw_below_drewN | apply below_drew1) | exact HB.out)))); (case aL => have := LMc9.out; omega); intro v239 w20 ho hb hg hat; rw [← Ny238.out] at ho; have n0_ := Aside0.mk (Kd.R_after (ok := (fun k_ => some k_ ≠ (v231 : Value).ownBlock)) (by (with_reducible repeat (first | apply Kd.R_alloc | apply Kd.R_drewN | apply Kd.R_drew)); exact Kd.R_mono HO227.out (fun _ hk => ⟨hk.1.2, hk.2⟩)) hg hat); have n1_ := Aside0.mk (Kd.R_after (ok := (fun k_ => some k_ ≠ (.slice Ao16 y225.length co16 : Value).ownBlock)) (by (with_reducible repeat (first | apply Kd.R_alloc | apply Kd.R_drewN | apply Kd.R_drew)); exact Kd.R_mono HO232.out (fun _ hk => ⟨hk.1.2, hk.2⟩)) hg hat); have n2_ := Aside0.mk (hb); have n3_ := Aside0.mk (ho); clear HO227; clear HO232; clear HB; clear HO237; have HO227 := n0_; have HO232 := n1_; have HB := n2_; have HO240 := n3_; clear n0_ n1_ n2_ n3_; clear ho hb hg hat; obtain ⟨Ao21, co21, eo21⟩ := Kd.R_slice HO240.out; subst eo21) | (go_at_call 24; (with_reducible refine (code_TakeText.calls k _ _ y238 t241 t242 t243 _ ?side1 ?side2 A10.out).mono ?_); (case side1 => repeat (first | exact (Kd.R_reads' HO240.out).2.2 | (with_reducible refine Kd.C_alloc ?_ _) | (with_reducible refine Kd.C_drewN ?_ _) | (with_reducible refine Kd.C_drew ?_))); (case side2 => exact (Kd.R_reads' HO240.out).2.1); rintro e w22 ⟨v244, rfl, ho0, hb⟩; have n0_ := Aside0.mk (Kd.R_elder' (by (with_reducible repeat (first | apply Kd.R_alloc | apply Kd.R_drewN | apply Kd.R_drew)); exact HO227.out) (Kd.Q_base ho0) hb); have n1_ := Aside0.mk (Kd.R_elder' (by (with_reducible repeat (first | apply Kd.R_alloc | apply Kd.R_drewN | apply Kd.R_drew)); exact HO232.out) (Kd.Q_base ho0) hb); have n2_ := Aside0.mk (Kd.R_elder' (by (with_reducible repeat (first | apply Kd.R_alloc | apply Kd.R_drewN | apply Kd.R_drew)); exact HO240.out) (Kd.Q_base ho0) hb); have n3_ := Aside0.mk (Kd.Q_lower (Kd.Q_new' (Kd.Q_new' (Kd.Q_new' ho0 (Kd.R_lt (by (with_reducible repeat (first | apply Kd.R_alloc | apply Kd.R_drewN | apply Kd.R_drew)); exact HO227.out))) (Kd.R_lt (by (with_reducible repeat (first | apply Kd.R_alloc | apply Kd.R_drewN | apply Kd.R_drew)); exact HO232.out))) (Kd.R_lt (by (with_reducible repeat (first | apply Kd.R_alloc | apply Kd.R_drewN | apply Kd.R_drew)); exact HO240.out))) (below_size (by repeat (first | (with_reducible first | exact HB.out | apply below_alloc | apply pw_below_drewN | apply below_drew1) | exact HB.out)))); have n4_ := Aside0.mk (below_step (by repeat (first | (with_reducible first | exact HB.out | apply below_alloc | apply pw_below_drewN | apply below_drew1) | exact HB.out)) hb); clear HO227; clear HO232; clear HO240; clear HB; have HO227 := n0_; have HO232 := n1_; have HO240 := n2_; have HO245 := n3_; have HB := n4_; clear n0_ n1_ n2_ n3_ n4_; (try clear hb); (try clear hb2); (try clear hk); (try clear hi); (try clear ho0)) | (go_at_call 25; (with_reducible refine (haywainref02_TakeText.calls k _ _ l0 t246 t247 t248 _ ?side1 ?side2 A11.out).mono ?_); (case side1 => repeat (first | exact (Kd.C_below HR0.out HB.out) | (with_reducible refine Kd.C_alloc ?_ _) | (with_reducible refine Kd.C_drewN ?_ _) | (with_reducible refine Kd.C_drew ?_))); (case side2 => exact HC0.out); rintro e w' ⟨rfl, ⟨nd, rfl⟩⟩; (try first | exact ⟨rfl, _, World.drewN_drewN _ _ _⟩ | exact ⟨rfl, _, Eq.trans (World.drewN_drewN _ _ _) (congrArg (World.drewN _) (Nat.add_assoc _ _ _))⟩))))
        (try simp only [Act.put, List.setIfInBounds_toArray, List.set_cons_zero, List.set_cons_succ])
        go_cut [79] (fun v79 wc => ∃ (kq : Nat) (x79_11 : Bool), v79 = .bool x79_11 ∧ Aside0 (haywainlaw02_CodeTakes.j0 kq l0 t229 t234 t242 t247 t248 x79_11 = some r) ∧ Aside0 (kq ≤ k) ∧ Aside0 (Kd.R (Kd.int .u8) 5 wc w.heap.size (fun k_ => some k_ ≠ (v244 : Value).ownBlock) v231 t229) ∧ Aside0 (Kd.Q (Kd.int .u8) 5 wc w.heap.size (fun k_ => some k_ ≠ (v231 : Value).ownBlock) v244 t242) ∧ Aside0 (Below w.heap.size w wc))
        case first =>
          have H := HC12.out
          clear HC12
          by_cases c23 : t228 = t233
          · rw [if_pos c23] at H
            have c23b0 : (t228 == t233) = true := beq_iff_eq.mpr c23
            have c23b1 : (t228 != t233) = false := bne_eq_false_iff_eq.mpr c23
            clear c23
            (first | rw [c23b0] | (simp only [i64_w, i32_w]; rw [c23b0]) | skip)
            by_cases c24 : t241.toList = t246.toList
            · rw [if_pos c24] at H
              have c24b0 : (t241.toList == t246.toList) = true := beq_iff_eq.mpr c24
              have c24b1 : (t241.toList != t246.toList) = false := bne_eq_false_iff_eq.mpr c24
              clear c24
              by_cases c25 : ((t230 == 0) != t234) = true
              · rw [if_pos c25] at H
                have c25b0 : ((t230 == 0) != t234) = true := c25
                (try (have c25b1 : decide ((t230 == 0) = t234) = false := by simpa using c25))
                (try (have c25b2 : ((t230 == 0) == t234) = false := by simpa using c25))
                (try (have c25b3 : ¬ ((t230 == 0) = t234) := by simpa using c25))
                clear c25
                have H' := Aside0.mk H
                clear H
                go_wp2
                repeat (go_quiet (fail); try go_wp2)
                go_meet
                case rel => exact ⟨_, (true), (by first | rfl | (simp; done) | (simp [*]; done)), H', ⟨by first | omega | exact Nat.le_refl _⟩, ⟨by (with_reducible repeat (first | apply Kd.R_alloc | apply Kd.R_drewN | apply Kd.R_drew)); exact Kd.R_mono HO232.out (fun _ hk => hk.2)⟩, ⟨by (with_reducible repeat (first | apply Kd.Q_alloc | apply Kd.Q_drewN | apply Kd.Q_drew)); exact Kd.Q_mono HO245.out (fun _ hk => hk.1.2)⟩, ⟨by repeat (first | (with_reducible first | exact HB.out | apply below_alloc | apply pw_below_drewN | apply below_drew1) | exact HB.out)⟩⟩
              · rw [if_neg c25] at H
                have c25b0 : ((t230 == 0) != t234) = false := by simpa using c25
                (try (have c25b1 : decide ((t230 == 0) = t234) = true := by simpa using c25))
                (try (have c25b2 : ((t230 == 0) == t234) = true := by simpa using c25))
                clear c25
                by_cases c26 : ((t243 == 0) != t248) = true
                · rw [if_pos c26] at H
                  have c26b0 : ((t243 == 0) != t248) = true := c26
                  (try (have c26b1 : decide ((t243 == 0) = t248) = false := by simpa using c26))
                  (try (have c26b2 : ((t243 == 0) == t248) = false := by simpa using c26))
                  (try (have c26b3 : ¬ ((t243 == 0) = t248) := by simpa using c26))
                  clear c26
                  have H' := Aside0.mk H
                  clear H
                  go_wp2
                  repeat (go_quiet (fail); try go_wp2)
                  go_meet
                  case rel => exact ⟨_, (true), (by first | rfl | (simp; done) | (simp [*]; done)), H', ⟨by first | omega | exact Nat.le_refl _⟩, ⟨by (with_reducible repeat (first | apply Kd.R_alloc | apply Kd.R_drewN | apply Kd.R_drew)); exact Kd.R_mono HO232.out (fun _ hk => hk.2)⟩, ⟨by (with_reducible repeat (first | apply Kd.Q_alloc | apply Kd.Q_drewN | apply Kd.Q_drew)); exact Kd.Q_mono HO245.out (fun _ hk => hk.1.2)⟩, ⟨by repeat (first | (with_reducible first | exact HB.out | apply below_alloc | apply pw_below_drewN | apply below_drew1) | exact HB.out)⟩⟩
                · rw [if_neg c26] at H
                  have c26b0 : ((t243 == 0) != t248) = false := by simpa using c26
                  (try (have c26b1 : decide ((t243 == 0) = t248) = true := by simpa using c26))
                  (try (have c26b2 : ((t243 == 0) == t248) = true := by simpa using c26))
                  clear c26
                  by_cases c27 : t234 = true
                  · subst c27
                    have H1 : (if t248 = true then (haywainlaw02_CodeTakes.j0 k l0 t229 true t242 t247 t248 false) else (haywainlaw02_CodeTakes.j0 k l0 t229 true t242 t247 t248 (t243 != 2))) = some r := by rw [if_pos rfl] at H; exact H
                    clear H
                    have H := H1
                    clear H1
                    by_cases c28 : t248 = true
                    · subst c28
                      have H1 : (haywainlaw02_CodeTakes.j0 k l0 t229 true t242 t247 true false) = some r := by rw [if_pos rfl] at H; exact H
                      clear H
                      have H := H1
                      clear H1
                      have H' := Aside0.mk H
                      clear H
                      go_wp2
                      repeat (go_quiet (fail); try go_wp2)
                      go_meet
                      case rel => exact ⟨_, (false), (by first | rfl | (simp; done) | (simp [*]; done)), H', ⟨by first | omega | exact Nat.le_refl _⟩, ⟨by (with_reducible repeat (first | apply Kd.R_alloc | apply Kd.R_drewN | apply Kd.R_drew)); exact Kd.R_mono HO232.out (fun _ hk => hk.2)⟩, ⟨by (with_reducible repeat (first | apply Kd.Q_alloc | apply Kd.Q_drewN | apply Kd.Q_drew)); exact Kd.Q_mono HO245.out (fun _ hk => hk.1.2)⟩, ⟨by repeat (first | (with_reducible first | exact HB.out | apply below_alloc | apply pw_below_drewN | apply below_drew1) | exact HB.out)⟩⟩
                    · replace c28 := Bool.eq_false_iff.mpr c28
                      subst c28
                      have H1 : (haywainlaw02_CodeTakes.j0 k l0 t229 true t242 t247 false (t243 != 2)) = some r := by rw [if_neg (show ¬ (false = true) by decide)] at H; exact H
                      clear H
                      have H := H1
                      clear H1
                      have H' := Aside0.mk H
                      clear H
                      go_wp2
                      repeat (go_quiet (fail); try go_wp2)
                      go_meet
                      case rel => exact ⟨_, ((t243 != 2)), (by first | rfl | (simp; done) | (simp [*]; done)), H', ⟨by first | omega | exact Nat.le_refl _⟩, ⟨by (with_reducible repeat (first | apply Kd.R_alloc | apply Kd.R_drewN | apply Kd.R_drew)); exact Kd.R_mono HO232.out (fun _ hk => hk.2)⟩, ⟨by (with_reducible repeat (first | apply Kd.Q_alloc | apply Kd.Q_drewN | apply Kd.Q_drew)); exact Kd.Q_mono HO245.out (fun _ hk => hk.1.2)⟩, ⟨by repeat (first | (with_reducible first | exact HB.out | apply below_alloc | apply pw_below_drewN | apply below_drew1) | exact HB.out)⟩⟩
                  · replace c27 := Bool.eq_false_iff.mpr c27
                    subst c27
                    have H1 : (if t230 = 2 then (if t248 = true then (haywainlaw02_CodeTakes.j0 k l0 t229 false t242 t247 t248 false) else (haywainlaw02_CodeTakes.j0 k l0 t229 false t242 t247 t248 (t243 != 2))) else (haywainlaw02_CodeTakes.j0 k l0 t229 false t242 t247 t248 true)) = some r := by rw [if_neg (show ¬ (false = true) by decide)] at H; exact H
                    clear H
                    have H := H1
                    clear H1
                    by_cases c29 : t230 = 2
                    · rw [if_pos c29] at H
                      have c29b0 : (t230 == 2) = true := beq_iff_eq.mpr c29
                      have c29b1 : (t230 != 2) = false := bne_eq_false_iff_eq.mpr c29
                      clear c29
                      by_cases c30 : t248 = true
                      · subst c30
                        have H1 : (haywainlaw02_CodeTakes.j0 k l0 t229 false t242 t247 true false) = some r := by rw [if_pos rfl] at H; exact H
                        clear H
                        have H := H1
                        clear H1
                        have H' := Aside0.mk H
                        clear H
                        go_wp2
                        repeat (go_quiet (fail); try go_wp2)
                        go_meet
                        case rel => exact ⟨_, (false), (by first | rfl | (simp; done) | (simp [*]; done)), H', ⟨by first | omega | exact Nat.le_refl _⟩, ⟨by (with_reducible repeat (first | apply Kd.R_alloc | apply Kd.R_drewN | apply Kd.R_drew)); exact Kd.R_mono HO232.out (fun _ hk => hk.2)⟩, ⟨by (with_reducible repeat (first | apply Kd.Q_alloc | apply Kd.Q_drewN | apply Kd.Q_drew)); exact Kd.Q_mono HO245.out (fun _ hk => hk.1.2)⟩, ⟨by repeat (first | (with_reducible first | exact HB.out | apply below_alloc | apply pw_below_drewN | apply below_drew1) | exact HB.out)⟩⟩
                      · replace c30 := Bool.eq_false_iff.mpr c30
                        subst c30
                        have H1 : (haywainlaw02_CodeTakes.j0 k l0 t229 false t242 t247 false (t243 != 2)) = some r := by rw [if_neg (show ¬ (false = true) by decide)] at H; exact H
                        clear H
                        have H := H1
                        clear H1
                        have H' := Aside0.mk H
                        clear H
                        go_wp2
                        repeat (go_quiet (fail); try go_wp2)
                        go_meet
                        case rel => exact ⟨_, ((t243 != 2)), (by first | rfl | (simp; done) | (simp [*]; done)), H', ⟨by first | omega | exact Nat.le_refl _⟩, ⟨by (with_reducible repeat (first | apply Kd.R_alloc | apply Kd.R_drewN | apply Kd.R_drew)); exact Kd.R_mono HO232.out (fun _ hk => hk.2)⟩, ⟨by (with_reducible repeat (first | apply Kd.Q_alloc | apply Kd.Q_drewN | apply Kd.Q_drew)); exact Kd.Q_mono HO245.out (fun _ hk => hk.1.2)⟩, ⟨by repeat (first | (with_reducible first | exact HB.out | apply below_alloc | apply pw_below_drewN | apply below_drew1) | exact HB.out)⟩⟩
                    · rw [if_neg c29] at H
                      have c29b0 : (t230 == 2) = false := beq_eq_false_iff_ne.mpr c29
                      have c29b1 : (t230 != 2) = true := bne_iff_ne.mpr c29
                      have H' := Aside0.mk H
                      clear H
                      go_wp2
                      repeat (go_quiet (fail); try go_wp2)
                      go_meet
                      case rel => exact ⟨_, (true), (by first | rfl | (simp; done) | (simp [*]; done)), H', ⟨by first | omega | exact Nat.le_refl _⟩, ⟨by (with_reducible repeat (first | apply Kd.R_alloc | apply Kd.R_drewN | apply Kd.R_drew)); exact Kd.R_mono HO232.out (fun _ hk => hk.2)⟩, ⟨by (with_reducible repeat (first | apply Kd.Q_alloc | apply Kd.Q_drewN | apply Kd.Q_drew)); exact Kd.Q_mono HO245.out (fun _ hk => hk.1.2)⟩, ⟨by repeat (first | (with_reducible first | exact HB.out | apply below_alloc | apply pw_below_drewN | apply below_drew1) | exact HB.out)⟩⟩
            · rw [if_neg c24] at H
              have c24b0 : (t241.toList == t246.toList) = false := beq_eq_false_iff_ne.mpr c24
              have c24b1 : (t241.toList != t246.toList) = true := bne_iff_ne.mpr c24
              have H' := Aside0.mk H
              clear H
              go_wp2
              repeat (go_quiet (fail); try go_wp2)
              go_meet
              case rel => exact ⟨_, (true), (by first | rfl | (simp; done) | (simp [*]; done)), H', ⟨by first | omega | exact Nat.le_refl _⟩, ⟨by (with_reducible repeat (first | apply Kd.R_alloc | apply Kd.R_drewN | apply Kd.R_drew)); exact Kd.R_mono HO232.out (fun _ hk => hk.2)⟩, ⟨by (with_reducible repeat (first | apply Kd.Q_alloc | apply Kd.Q_drewN | apply Kd.Q_drew)); exact Kd.Q_mono HO245.out (fun _ hk => hk.1.2)⟩, ⟨by repeat (first | (with_reducible first | exact HB.out | apply below_alloc | apply pw_below_drewN | apply below_drew1) | exact HB.out)⟩⟩
          · rw [if_neg c23] at H
            have c23b0 : (t228 == t233) = false := beq_eq_false_iff_ne.mpr c23
            have c23b1 : (t228 != t233) = true := bne_iff_ne.mpr c23
            (first | rw [c23b0] | (simp only [i64_w, i32_w]; rw [c23b0]) | skip)
            have H' := Aside0.mk H
            clear H
            go_wp2
            repeat (go_quiet (fail); try go_wp2)
            go_meet
            case rel => exact ⟨_, (true), (by first | rfl | (simp; done) | (simp [*]; done)), H', ⟨by first | omega | exact Nat.le_refl _⟩, ⟨by (with_reducible repeat (first | apply Kd.R_alloc | apply Kd.R_drewN | apply Kd.R_drew)); exact Kd.R_mono HO232.out (fun _ hk => hk.2)⟩, ⟨by (with_reducible repeat (first | apply Kd.Q_alloc | apply Kd.Q_drewN | apply Kd.Q_drew)); exact Kd.Q_mono HO245.out (fun _ hk => hk.1.2)⟩, ⟨by repeat (first | (with_reducible first | exact HB.out | apply below_alloc | apply pw_below_drewN | apply below_drew1) | exact HB.out)⟩⟩
        case rest =>
          clear HC12
          try clear c2
          try clear p2
          try clear c3
          try clear c6
          try clear c8
          try clear c9
          try clear c23
          try clear c23b0
          try clear c23b1
          try clear c24
          try clear c24b0
          try clear c24b1
          try clear c25
          try clear c25b0
          try clear c25b1
          try clear c25b2
          try clear c26
          try clear c26b0
          try clear c26b1
          try clear c26b2
          try clear c27
          try clear c28
          try clear c29
          try clear c29b0
          try clear c29b1
          try clear c30
          obtain ⟨kq, x79_11, rfl, HA, HJ11, HO_4, HO_9, HB⟩ := hcut
          cases kq with
          | zero => exact absurd HA.out (by simp [haywainlaw02_CodeTakes.j0])
          | succ kj11 =>
            have H := HA.out
            clear HA
            simp only [haywainlaw02_CodeTakes.j0] at H
            by_cases c31 : x79_11 = true
            · subst c31
              have H1 : (some false) = some r := by rw [if_pos rfl] at H; exact H
              clear H
              have H := H1
              clear H1
              obtain rfl := Option.some.inj H
              exact absurd HR_.out (by decide)
            · replace c31 := Bool.eq_false_iff.mpr c31
              subst c31
              have H1 : (if t234 = true then (if 8 ≤ (l0.length : Int) then (if (strOfNums t229).toList = (strOfNums (l0.drop 8)).toList then (if t248 = true then (if 0 ≤ t247 then (if t247 ≤ (l0.length : Int) then (if (strOfNums t242).toList = (strOfNums (l0.drop (t247 : Int).toNat)).toList then ((haywainlaw02_knows.f kj11).bind fun t251 => (some t251)) else (some false)) else (none)) else (none)) else (if (t242.length : Int) = 0 then ((haywainlaw02_knows.f kj11).bind fun t252 => (some t252)) else (some false))) else (some false)) else (none)) else (if t248 = true then (if 0 ≤ t247 then (if t247 ≤ (l0.length : Int) then (if (strOfNums t242).toList = (strOfNums (l0.drop (t247 : Int).toNat)).toList then (if (t229.length : Int) = 0 then ((haywainlaw02_knows.f kj11).bind fun t254 => (some t254)) else (some false)) else (some false)) else (none)) else (none)) else (if (t229.length : Int) = 0 then (if (t242.length : Int) = 0 then ((haywainlaw02_knows.f kj11).bind fun t255 => (some t255)) else (some false)) else (some false)))) = some r := by rw [if_neg (show ¬ (false = true) by decide)] at H; exact H
              clear H
              have H := H1
              clear H1
              by_cases c32 : t234 = true
              · subst c32
                have H1 : (if 8 ≤ (l0.length : Int) then (if (strOfNums t229).toList = (strOfNums (l0.drop 8)).toList then (if t248 = true then (if 0 ≤ t247 then (if t247 ≤ (l0.length : Int) then (if (strOfNums t242).toList = (strOfNums (l0.drop (t247 : Int).toNat)).toList then ((haywainlaw02_knows.f kj11).bind fun t251 => (some t251)) else (some false)) else (none)) else (none)) else (if (t242.length : Int) = 0 then ((haywainlaw02_knows.f kj11).bind fun t252 => (some t252)) else (some false))) else (some false)) else (none)) = some r := by rw [if_pos rfl] at H; exact H
                clear H
                have H := H1
                clear H1
                by_cases c33 : 8 ≤ (l0.length : Int)
                · rw [if_pos c33] at H
                  have c33b0 := eq_true c33
                  have c33b1 : decide (8 ≤ (l0.length : Int)) = true := decide_eq_true c33
                  clear c33
                  by_cases c34 : (strOfNums t229).toList = (strOfNums (l0.drop 8)).toList
                  · rw [if_pos c34] at H
                    have c34b0 : ((strOfNums t229).toList == (strOfNums (l0.drop 8)).toList) = true := beq_iff_eq.mpr c34
                    have c34b1 : ((strOfNums t229).toList != (strOfNums (l0.drop 8)).toList) = false := bne_eq_false_iff_eq.mpr c34
                    clear c34
                    by_cases c35 : t248 = true
                    · subst c35
                      have H1 : (if 0 ≤ t247 then (if t247 ≤ (l0.length : Int) then (if (strOfNums t242).toList = (strOfNums (l0.drop (t247 : Int).toNat)).toList then ((haywainlaw02_knows.f kj11).bind fun t251 => (some t251)) else (some false)) else (none)) else (none)) = some r := by rw [if_pos rfl] at H; exact H
                      clear H
                      have H := H1
                      clear H1
                      by_cases c36 : 0 ≤ t247
                      · rw [if_pos c36] at H
                        have c36b0 := eq_true c36
                        have c36b1 : decide (0 ≤ t247) = true := decide_eq_true c36
                        clear c36
                        by_cases c37 : t247 ≤ (l0.length : Int)
                        · rw [if_pos c37] at H
                          have c37b0 := eq_true c37
                          have c37b1 : decide (t247 ≤ (l0.length : Int)) = true := decide_eq_true c37
                          clear c37
                          by_cases c38 : (strOfNums t242).toList = (strOfNums (l0.drop (t247 : Int).toNat)).toList
                          · rw [if_pos c38] at H
                            have c38b0 : ((strOfNums t242).toList == (strOfNums (l0.drop (t247 : Int).toNat)).toList) = true := beq_iff_eq.mpr c38
                            have c38b1 : ((strOfNums t242).toList != (strOfNums (l0.drop (t247 : Int).toNat)).toList) = false := bne_eq_false_iff_eq.mpr c38
                            clear c38
                            replace H := Option.bind_eq_some_iff.mp H
                            obtain ⟨t251, A390, H⟩ := H
                            replace H : (some t251) = some r := H
                            have A39 := Aside0.mk A390
                            clear A390
                            obtain rfl := Option.some.inj H
                            have hcv40 := own_string (P := Try.prog) Try.underlying22 Try.underlying5 Try.underlying9 (Kd.own_of_R HO_4.out); have hcv40d := fun (q_ : Nat) => own_string (P := Try.prog) Try.underlying22 Try.underlying5 Try.underlying9 (Kd.own_of_R (Kd.R_drewN HO_4.out q_))
                            obtain ⟨i041, hi041, _, hsz41, _⟩ := info_parts info5
                            obtain ⟨A41, hcut41, hA41, hC41⟩ := print_drop_of (P := Try.prog) (Value.int .u8) 0 22 5 .i64 Try.underlying22 hi041 hsz41 A0 c0 l0 8 (by omega) (of_decide_eq_true (by first | (with_reducible assumption) | assumption)) HC0.out
                            have HR249 := Aside0.mk (Kd.C_of_reads (h1 := fun _ => rfl) (hA41 _ (Kd.reads_of_C HR0.out)))
                            have HC249 := Aside0.mk hC41
                            clear hA41 hC41 hi041 hsz41
                            have hcv42 := Kd.C_string (P := Try.prog) (A := A41) (c := (c0 - 8)) Try.underlying22 Try.underlying5 Try.underlying9 (Kd.C_below HR249.out HB.out)
                            have hcvs42 := Kd.C_string (P := Try.prog) (A := A41) (c := (c0 - 8)) Try.underlying22 Try.underlying5 Try.underlying9 (Kd.C_below HR249.out HB.out)
                            try simp only [Int.reduceToNat] at hcvs42
                            rw [show (l0.drop 8).length = (l0.length - 8) from List.length_drop] at hcvs42
                            have hcvt42 := fun (q_ : Nat) => (by have h_ := Kd.C_string (P := Try.prog) (A := A41) (c := (c0 - 8)) Try.underlying22 Try.underlying5 Try.underlying9 (Kd.C_drewN (Kd.C_below HR249.out HB.out) q_); (try simp only [Int.reduceToNat] at h_); rw [show (l0.drop 8).length = (l0.length - 8) from List.length_drop] at h_; exact h_)
                            obtain ⟨Ao43, co43, eo43, _⟩ := Kd.Q_slice HO_9.out
                            subst eo43
                            have hcv44 := Kd.C_string (P := Try.prog) (A := Ao43) (c := co43) Try.underlying22 Try.underlying5 Try.underlying9 (Kd.Q_reads' HO_9.out).2.2
                            have hcvd44 := fun (q_ : Nat) => Kd.C_string (P := Try.prog) (A := Ao43) (c := co43) Try.underlying22 Try.underlying5 Try.underlying9 (Kd.C_drewN (Kd.Q_reads' HO_9.out).2.2 q_)
                            obtain ⟨i045, hi045, _, hsz45, _⟩ := info_parts info5
                            obtain ⟨A45, hcut45, hA45, hC45⟩ := print_drop_of (P := Try.prog) (Value.int .u8) 0 22 5 .i64 Try.underlying22 hi045 hsz45 A0 c0 l0 t247 (of_decide_eq_true (by first | (with_reducible assumption) | assumption)) (of_decide_eq_true (by first | (with_reducible assumption) | assumption)) HC0.out
                            have HR250 := Aside0.mk (Kd.C_of_reads (h1 := fun _ => rfl) (hA45 _ (Kd.reads_of_C HR0.out)))
                            have HC250 := Aside0.mk hC45
                            clear hA45 hC45 hi045 hsz45
                            have hcv46 := Kd.C_string (P := Try.prog) (A := A45) (c := (c0 - t247.toNat)) Try.underlying22 Try.underlying5 Try.underlying9 (Kd.C_below HR250.out HB.out)
                            have hcvs46 := Kd.C_string (P := Try.prog) (A := A45) (c := (c0 - t247.toNat)) Try.underlying22 Try.underlying5 Try.underlying9 (Kd.C_below HR250.out HB.out)
                            try simp only [Int.reduceToNat] at hcvs46
                            rw [show (l0.drop (t247 : Int).toNat).length = (l0.length - t247.toNat) from List.length_drop] at hcvs46
                            have hcvt46 := fun (q_ : Nat) => (by have h_ := Kd.C_string (P := Try.prog) (A := A45) (c := (c0 - t247.toNat)) Try.underlying22 Try.underlying5 Try.underlying9 (Kd.C_drewN (Kd.C_below HR250.out HB.out) q_); (try simp only [Int.reduceToNat] at h_); rw [show (l0.drop (t247 : Int).toNat).length = (l0.length - t247.toNat) from List.length_drop] at h_; exact h_)
                            go_wp2_with (first | (go_at_call 11; (with_reducible refine (haywainlaw02_knows.calls kj11  t251 _ A39.out HR_.out).mono ?_); rintro e w47 ⟨rfl, hb⟩; have n0_ := Aside0.mk (Kd.R_below (by (with_reducible repeat (first | apply Kd.R_alloc | apply Kd.R_drewN | apply Kd.R_drew)); exact HO_4.out) hb); have n1_ := Aside0.mk (Kd.Q_below (by (with_reducible repeat (first | apply Kd.Q_alloc | apply Kd.Q_drewN | apply Kd.Q_drew)); exact HO_9.out) hb); have n2_ := Aside0.mk (below_step (by repeat (first | (with_reducible first | exact HB.out | apply below_alloc | apply pw_below_drewN | apply below_drew1) | exact HB.out)) hb); clear HO_4; clear HO_9; clear HB; have HO_4 := n0_; have HO_9 := n1_; have HB := n2_; clear n0_ n1_ n2_; (try clear hb); (try clear hb2); (try clear hk); (try clear hi)))
                            repeat (go_quiet (first | (go_at_call 11; (with_reducible refine (haywainlaw02_knows.calls kj11  t251 _ A39.out HR_.out).mono ?_); rintro e w47 ⟨rfl, hb⟩; have n0_ := Aside0.mk (Kd.R_below (by (with_reducible repeat (first | apply Kd.R_alloc | apply Kd.R_drewN | apply Kd.R_drew)); exact HO_4.out) hb); have n1_ := Aside0.mk (Kd.Q_below (by (with_reducible repeat (first | apply Kd.Q_alloc | apply Kd.Q_drewN | apply Kd.Q_drew)); exact HO_9.out) hb); have n2_ := Aside0.mk (below_step (by repeat (first | (with_reducible first | exact HB.out | apply below_alloc | apply pw_below_drewN | apply below_drew1) | exact HB.out)) hb); clear HO_4; clear HO_9; clear HB; have HO_4 := n0_; have HO_9 := n1_; have HB := n2_; clear n0_ n1_ n2_; (try clear hb); (try clear hb2); (try clear hk); (try clear hi))); try go_wp2_with (first | (go_at_call 11; (with_reducible refine (haywainlaw02_knows.calls kj11  t251 _ A39.out HR_.out).mono ?_); rintro e w47 ⟨rfl, hb⟩; have n0_ := Aside0.mk (Kd.R_below (by (with_reducible repeat (first | apply Kd.R_alloc | apply Kd.R_drewN | apply Kd.R_drew)); exact HO_4.out) hb); have n1_ := Aside0.mk (Kd.Q_below (by (with_reducible repeat (first | apply Kd.Q_alloc | apply Kd.Q_drewN | apply Kd.Q_drew)); exact HO_9.out) hb); have n2_ := Aside0.mk (below_step (by repeat (first | (with_reducible first | exact HB.out | apply below_alloc | apply pw_below_drewN | apply below_drew1) | exact HB.out)) hb); clear HO_4; clear HO_9; clear HB; have HO_4 := n0_; have HO_9 := n1_; have HB := n2_; clear n0_ n1_ n2_; (try clear hb); (try clear hb2); (try clear hk); (try clear hi))))
                            go_ret
                            exact ⟨by first | rfl | (simp [errW_none, errW_some] <;> rfl) | (simp [*, errW_none, errW_some] <;> rfl), by repeat (first | (with_reducible first | exact HB.out | apply below_alloc | apply pw_below_drewN | apply below_drew1) | exact HB.out)⟩
                          · rw [if_neg c38] at H
                            have c38b0 : ((strOfNums t242).toList == (strOfNums (l0.drop (t247 : Int).toNat)).toList) = false := beq_eq_false_iff_ne.mpr c38
                            have c38b1 : ((strOfNums t242).toList != (strOfNums (l0.drop (t247 : Int).toNat)).toList) = true := bne_iff_ne.mpr c38
                            obtain rfl := Option.some.inj H
                            exact absurd HR_.out (by decide)
                        · rw [if_neg c37] at H
                          exact absurd H (by simp)
                      · rw [if_neg c36] at H
                        exact absurd H (by simp)
                    · replace c35 := Bool.eq_false_iff.mpr c35
                      subst c35
                      have H1 : (if (t242.length : Int) = 0 then ((haywainlaw02_knows.f kj11).bind fun t252 => (some t252)) else (some false)) = some r := by rw [if_neg (show ¬ (false = true) by decide)] at H; exact H
                      clear H
                      have H := H1
                      clear H1
                      by_cases c48 : (t242.length : Int) = 0
                      · rw [if_pos c48] at H
                        have c48b0 : ((t242.length : Int) == 0) = true := beq_iff_eq.mpr c48
                        have c48b1 : ((t242.length : Int) != 0) = false := bne_eq_false_iff_eq.mpr c48
                        clear c48
                        replace H := Option.bind_eq_some_iff.mp H
                        obtain ⟨t252, A490, H⟩ := H
                        replace H : (some t252) = some r := H
                        have A49 := Aside0.mk A490
                        clear A490
                        obtain rfl := Option.some.inj H
                        have hcv50 := own_string (P := Try.prog) Try.underlying22 Try.underlying5 Try.underlying9 (Kd.own_of_R HO_4.out); have hcv50d := fun (q_ : Nat) => own_string (P := Try.prog) Try.underlying22 Try.underlying5 Try.underlying9 (Kd.own_of_R (Kd.R_drewN HO_4.out q_))
                        obtain ⟨i051, hi051, _, hsz51, _⟩ := info_parts info5
                        obtain ⟨A51, hcut51, hA51, hC51⟩ := print_drop_of (P := Try.prog) (Value.int .u8) 0 22 5 .i64 Try.underlying22 hi051 hsz51 A0 c0 l0 8 (by omega) (of_decide_eq_true (by first | (with_reducible assumption) | assumption)) HC0.out
                        have HR249 := Aside0.mk (Kd.C_of_reads (h1 := fun _ => rfl) (hA51 _ (Kd.reads_of_C HR0.out)))
                        have HC249 := Aside0.mk hC51
                        clear hA51 hC51 hi051 hsz51
                        have hcv52 := Kd.C_string (P := Try.prog) (A := A51) (c := (c0 - 8)) Try.underlying22 Try.underlying5 Try.underlying9 (Kd.C_below HR249.out HB.out)
                        have hcvs52 := Kd.C_string (P := Try.prog) (A := A51) (c := (c0 - 8)) Try.underlying22 Try.underlying5 Try.underlying9 (Kd.C_below HR249.out HB.out)
                        try simp only [Int.reduceToNat] at hcvs52
                        rw [show (l0.drop 8).length = (l0.length - 8) from List.length_drop] at hcvs52
                        have hcvt52 := fun (q_ : Nat) => (by have h_ := Kd.C_string (P := Try.prog) (A := A51) (c := (c0 - 8)) Try.underlying22 Try.underlying5 Try.underlying9 (Kd.C_drewN (Kd.C_below HR249.out HB.out) q_); (try simp only [Int.reduceToNat] at h_); rw [show (l0.drop 8).length = (l0.length - 8) from List.length_drop] at h_; exact h_)
                        obtain ⟨Ao53, co53, eo53, _⟩ := Kd.Q_slice HO_9.out
                        subst eo53
                        go_wp2_with (first | (go_at_call 11; (with_reducible refine (haywainlaw02_knows.calls kj11  t252 _ A49.out HR_.out).mono ?_); rintro e w54 ⟨rfl, hb⟩; have n0_ := Aside0.mk (Kd.R_below (by (with_reducible repeat (first | apply Kd.R_alloc | apply Kd.R_drewN | apply Kd.R_drew)); exact HO_4.out) hb); have n1_ := Aside0.mk (Kd.Q_below (by (with_reducible repeat (first | apply Kd.Q_alloc | apply Kd.Q_drewN | apply Kd.Q_drew)); exact HO_9.out) hb); have n2_ := Aside0.mk (below_step (by repeat (first | (with_reducible first | exact HB.out | apply below_alloc | apply pw_below_drewN | apply below_drew1) | exact HB.out)) hb); clear HO_4; clear HO_9; clear HB; have HO_4 := n0_; have HO_9 := n1_; have HB := n2_; clear n0_ n1_ n2_; (try clear hb); (try clear hb2); (try clear hk); (try clear hi)))
                        repeat (go_quiet (first | (go_at_call 11; (with_reducible refine (haywainlaw02_knows.calls kj11  t252 _ A49.out HR_.out).mono ?_); rintro e w54 ⟨rfl, hb⟩; have n0_ := Aside0.mk (Kd.R_below (by (with_reducible repeat (first | apply Kd.R_alloc | apply Kd.R_drewN | apply Kd.R_drew)); exact HO_4.out) hb); have n1_ := Aside0.mk (Kd.Q_below (by (with_reducible repeat (first | apply Kd.Q_alloc | apply Kd.Q_drewN | apply Kd.Q_drew)); exact HO_9.out) hb); have n2_ := Aside0.mk (below_step (by repeat (first | (with_reducible first | exact HB.out | apply below_alloc | apply pw_below_drewN | apply below_drew1) | exact HB.out)) hb); clear HO_4; clear HO_9; clear HB; have HO_4 := n0_; have HO_9 := n1_; have HB := n2_; clear n0_ n1_ n2_; (try clear hb); (try clear hb2); (try clear hk); (try clear hi))); try go_wp2_with (first | (go_at_call 11; (with_reducible refine (haywainlaw02_knows.calls kj11  t252 _ A49.out HR_.out).mono ?_); rintro e w54 ⟨rfl, hb⟩; have n0_ := Aside0.mk (Kd.R_below (by (with_reducible repeat (first | apply Kd.R_alloc | apply Kd.R_drewN | apply Kd.R_drew)); exact HO_4.out) hb); have n1_ := Aside0.mk (Kd.Q_below (by (with_reducible repeat (first | apply Kd.Q_alloc | apply Kd.Q_drewN | apply Kd.Q_drew)); exact HO_9.out) hb); have n2_ := Aside0.mk (below_step (by repeat (first | (with_reducible first | exact HB.out | apply below_alloc | apply pw_below_drewN | apply below_drew1) | exact HB.out)) hb); clear HO_4; clear HO_9; clear HB; have HO_4 := n0_; have HO_9 := n1_; have HB := n2_; clear n0_ n1_ n2_; (try clear hb); (try clear hb2); (try clear hk); (try clear hi))))
                        go_ret
                        exact ⟨by first | rfl | (simp [errW_none, errW_some] <;> rfl) | (simp [*, errW_none, errW_some] <;> rfl), by repeat (first | (with_reducible first | exact HB.out | apply below_alloc | apply pw_below_drewN | apply below_drew1) | exact HB.out)⟩
                      · rw [if_neg c48] at H
                        have c48b0 : ((t242.length : Int) == 0) = false := beq_eq_false_iff_ne.mpr c48
                        have c48b1 : ((t242.length : Int) != 0) = true := bne_iff_ne.mpr c48
                        have c48b2 : ¬ (t242 = []) := fun h_ => c48 (by rw [h_]; rfl)
                        obtain rfl := Option.some.inj H
                        exact absurd HR_.out (by decide)
                  · rw [if_neg c34] at H
                    have c34b0 : ((strOfNums t229).toList == (strOfNums (l0.drop 8)).toList) = false := beq_eq_false_iff_ne.mpr c34
                    have c34b1 : ((strOfNums t229).toList != (strOfNums (l0.drop 8)).toList) = true := bne_iff_ne.mpr c34
                    obtain rfl := Option.some.inj H
                    exact absurd HR_.out (by decide)
                · rw [if_neg c33] at H
                  exact absurd H (by simp)
              · replace c32 := Bool.eq_false_iff.mpr c32
                subst c32
                have H1 : (if t248 = true then (if 0 ≤ t247 then (if t247 ≤ (l0.length : Int) then (if (strOfNums t242).toList = (strOfNums (l0.drop (t247 : Int).toNat)).toList then (if (t229.length : Int) = 0 then ((haywainlaw02_knows.f kj11).bind fun t254 => (some t254)) else (some false)) else (some false)) else (none)) else (none)) else (if (t229.length : Int) = 0 then (if (t242.length : Int) = 0 then ((haywainlaw02_knows.f kj11).bind fun t255 => (some t255)) else (some false)) else (some false))) = some r := by rw [if_neg (show ¬ (false = true) by decide)] at H; exact H
                clear H
                have H := H1
                clear H1
                by_cases c55 : t248 = true
                · subst c55
                  have H1 : (if 0 ≤ t247 then (if t247 ≤ (l0.length : Int) then (if (strOfNums t242).toList = (strOfNums (l0.drop (t247 : Int).toNat)).toList then (if (t229.length : Int) = 0 then ((haywainlaw02_knows.f kj11).bind fun t254 => (some t254)) else (some false)) else (some false)) else (none)) else (none)) = some r := by rw [if_pos rfl] at H; exact H
                  clear H
                  have H := H1
                  clear H1
                  by_cases c56 : 0 ≤ t247
                  · rw [if_pos c56] at H
                    have c56b0 := eq_true c56
                    have c56b1 : decide (0 ≤ t247) = true := decide_eq_true c56
                    clear c56
                    by_cases c57 : t247 ≤ (l0.length : Int)
                    · rw [if_pos c57] at H
                      have c57b0 := eq_true c57
                      have c57b1 : decide (t247 ≤ (l0.length : Int)) = true := decide_eq_true c57
                      clear c57
                      by_cases c58 : (strOfNums t242).toList = (strOfNums (l0.drop (t247 : Int).toNat)).toList
                      · rw [if_pos c58] at H
                        have c58b0 : ((strOfNums t242).toList == (strOfNums (l0.drop (t247 : Int).toNat)).toList) = true := beq_iff_eq.mpr c58
                        have c58b1 : ((strOfNums t242).toList != (strOfNums (l0.drop (t247 : Int).toNat)).toList) = false := bne_eq_false_iff_eq.mpr c58
                        clear c58
                        by_cases c59 : (t229.length : Int) = 0
                        · rw [if_pos c59] at H
                          have c59b0 : ((t229.length : Int) == 0) = true := beq_iff_eq.mpr c59
                          have c59b1 : ((t229.length : Int) != 0) = false := bne_eq_false_iff_eq.mpr c59
                          clear c59
                          replace H := Option.bind_eq_some_iff.mp H
                          obtain ⟨t254, A600, H⟩ := H
                          replace H : (some t254) = some r := H
                          have A60 := Aside0.mk A600
                          clear A600
                          obtain rfl := Option.some.inj H
                          obtain ⟨Ao61, co61, eo61, _⟩ := Kd.Q_slice HO_9.out
                          subst eo61
                          have hcv62 := Kd.C_string (P := Try.prog) (A := Ao61) (c := co61) Try.underlying22 Try.underlying5 Try.underlying9 (Kd.Q_reads' HO_9.out).2.2
                          have hcvd62 := fun (q_ : Nat) => Kd.C_string (P := Try.prog) (A := Ao61) (c := co61) Try.underlying22 Try.underlying5 Try.underlying9 (Kd.C_drewN (Kd.Q_reads' HO_9.out).2.2 q_)
                          obtain ⟨i063, hi063, _, hsz63, _⟩ := info_parts info5
                          obtain ⟨A63, hcut63, hA63, hC63⟩ := print_drop_of (P := Try.prog) (Value.int .u8) 0 22 5 .i64 Try.underlying22 hi063 hsz63 A0 c0 l0 t247 (of_decide_eq_true (by first | (with_reducible assumption) | assumption)) (of_decide_eq_true (by first | (with_reducible assumption) | assumption)) HC0.out
                          have HR253 := Aside0.mk (Kd.C_of_reads (h1 := fun _ => rfl) (hA63 _ (Kd.reads_of_C HR0.out)))
                          have HC253 := Aside0.mk hC63
                          clear hA63 hC63 hi063 hsz63
                          have hcv64 := Kd.C_string (P := Try.prog) (A := A63) (c := (c0 - t247.toNat)) Try.underlying22 Try.underlying5 Try.underlying9 (Kd.C_below HR253.out HB.out)
                          have hcvs64 := Kd.C_string (P := Try.prog) (A := A63) (c := (c0 - t247.toNat)) Try.underlying22 Try.underlying5 Try.underlying9 (Kd.C_below HR253.out HB.out)
                          try simp only [Int.reduceToNat] at hcvs64
                          rw [show (l0.drop (t247 : Int).toNat).length = (l0.length - t247.toNat) from List.length_drop] at hcvs64
                          have hcvt64 := fun (q_ : Nat) => (by have h_ := Kd.C_string (P := Try.prog) (A := A63) (c := (c0 - t247.toNat)) Try.underlying22 Try.underlying5 Try.underlying9 (Kd.C_drewN (Kd.C_below HR253.out HB.out) q_); (try simp only [Int.reduceToNat] at h_); rw [show (l0.drop (t247 : Int).toNat).length = (l0.length - t247.toNat) from List.length_drop] at h_; exact h_)
                          obtain ⟨Ao65, co65, eo65⟩ := Kd.R_slice HO_4.out
                          subst eo65
                          go_wp2_with (first | (go_at_call 11; (with_reducible refine (haywainlaw02_knows.calls kj11  t254 _ A60.out HR_.out).mono ?_); rintro e w66 ⟨rfl, hb⟩; have n0_ := Aside0.mk (Kd.R_below (by (with_reducible repeat (first | apply Kd.R_alloc | apply Kd.R_drewN | apply Kd.R_drew)); exact HO_4.out) hb); have n1_ := Aside0.mk (Kd.Q_below (by (with_reducible repeat (first | apply Kd.Q_alloc | apply Kd.Q_drewN | apply Kd.Q_drew)); exact HO_9.out) hb); have n2_ := Aside0.mk (below_step (by repeat (first | (with_reducible first | exact HB.out | apply below_alloc | apply pw_below_drewN | apply below_drew1) | exact HB.out)) hb); clear HO_4; clear HO_9; clear HB; have HO_4 := n0_; have HO_9 := n1_; have HB := n2_; clear n0_ n1_ n2_; (try clear hb); (try clear hb2); (try clear hk); (try clear hi)))
                          repeat (go_quiet (first | (go_at_call 11; (with_reducible refine (haywainlaw02_knows.calls kj11  t254 _ A60.out HR_.out).mono ?_); rintro e w66 ⟨rfl, hb⟩; have n0_ := Aside0.mk (Kd.R_below (by (with_reducible repeat (first | apply Kd.R_alloc | apply Kd.R_drewN | apply Kd.R_drew)); exact HO_4.out) hb); have n1_ := Aside0.mk (Kd.Q_below (by (with_reducible repeat (first | apply Kd.Q_alloc | apply Kd.Q_drewN | apply Kd.Q_drew)); exact HO_9.out) hb); have n2_ := Aside0.mk (below_step (by repeat (first | (with_reducible first | exact HB.out | apply below_alloc | apply pw_below_drewN | apply below_drew1) | exact HB.out)) hb); clear HO_4; clear HO_9; clear HB; have HO_4 := n0_; have HO_9 := n1_; have HB := n2_; clear n0_ n1_ n2_; (try clear hb); (try clear hb2); (try clear hk); (try clear hi))); try go_wp2_with (first | (go_at_call 11; (with_reducible refine (haywainlaw02_knows.calls kj11  t254 _ A60.out HR_.out).mono ?_); rintro e w66 ⟨rfl, hb⟩; have n0_ := Aside0.mk (Kd.R_below (by (with_reducible repeat (first | apply Kd.R_alloc | apply Kd.R_drewN | apply Kd.R_drew)); exact HO_4.out) hb); have n1_ := Aside0.mk (Kd.Q_below (by (with_reducible repeat (first | apply Kd.Q_alloc | apply Kd.Q_drewN | apply Kd.Q_drew)); exact HO_9.out) hb); have n2_ := Aside0.mk (below_step (by repeat (first | (with_reducible first | exact HB.out | apply below_alloc | apply pw_below_drewN | apply below_drew1) | exact HB.out)) hb); clear HO_4; clear HO_9; clear HB; have HO_4 := n0_; have HO_9 := n1_; have HB := n2_; clear n0_ n1_ n2_; (try clear hb); (try clear hb2); (try clear hk); (try clear hi))))
                          go_ret
                          exact ⟨by first | rfl | (simp [errW_none, errW_some] <;> rfl) | (simp [*, errW_none, errW_some] <;> rfl), by repeat (first | (with_reducible first | exact HB.out | apply below_alloc | apply pw_below_drewN | apply below_drew1) | exact HB.out)⟩
                        · rw [if_neg c59] at H
                          have c59b0 : ((t229.length : Int) == 0) = false := beq_eq_false_iff_ne.mpr c59
                          have c59b1 : ((t229.length : Int) != 0) = true := bne_iff_ne.mpr c59
                          have c59b2 : ¬ (t229 = []) := fun h_ => c59 (by rw [h_]; rfl)
                          obtain rfl := Option.some.inj H
                          exact absurd HR_.out (by decide)
                      · rw [if_neg c58] at H
                        have c58b0 : ((strOfNums t242).toList == (strOfNums (l0.drop (t247 : Int).toNat)).toList) = false := beq_eq_false_iff_ne.mpr c58
                        have c58b1 : ((strOfNums t242).toList != (strOfNums (l0.drop (t247 : Int).toNat)).toList) = true := bne_iff_ne.mpr c58
                        obtain rfl := Option.some.inj H
                        exact absurd HR_.out (by decide)
                    · rw [if_neg c57] at H
                      exact absurd H (by simp)
                  · rw [if_neg c56] at H
                    exact absurd H (by simp)
                · replace c55 := Bool.eq_false_iff.mpr c55
                  subst c55
                  have H1 : (if (t229.length : Int) = 0 then (if (t242.length : Int) = 0 then ((haywainlaw02_knows.f kj11).bind fun t255 => (some t255)) else (some false)) else (some false)) = some r := by rw [if_neg (show ¬ (false = true) by decide)] at H; exact H
                  clear H
                  have H := H1
                  clear H1
                  by_cases c67 : (t229.length : Int) = 0
                  · rw [if_pos c67] at H
                    have c67b0 : ((t229.length : Int) == 0) = true := beq_iff_eq.mpr c67
                    have c67b1 : ((t229.length : Int) != 0) = false := bne_eq_false_iff_eq.mpr c67
                    clear c67
                    by_cases c68 : (t242.length : Int) = 0
                    · rw [if_pos c68] at H
                      have c68b0 : ((t242.length : Int) == 0) = true := beq_iff_eq.mpr c68
                      have c68b1 : ((t242.length : Int) != 0) = false := bne_eq_false_iff_eq.mpr c68
                      clear c68
                      replace H := Option.bind_eq_some_iff.mp H
                      obtain ⟨t255, A690, H⟩ := H
                      replace H : (some t255) = some r := H
                      have A69 := Aside0.mk A690
                      clear A690
                      obtain rfl := Option.some.inj H
                      obtain ⟨Ao70, co70, eo70⟩ := Kd.R_slice HO_4.out
                      subst eo70
                      obtain ⟨Ao71, co71, eo71, _⟩ := Kd.Q_slice HO_9.out
                      subst eo71
                      go_wp2_with (first | (go_at_call 11; (with_reducible refine (haywainlaw02_knows.calls kj11  t255 _ A69.out HR_.out).mono ?_); rintro e w72 ⟨rfl, hb⟩; have n0_ := Aside0.mk (Kd.R_below (by (with_reducible repeat (first | apply Kd.R_alloc | apply Kd.R_drewN | apply Kd.R_drew)); exact HO_4.out) hb); have n1_ := Aside0.mk (Kd.Q_below (by (with_reducible repeat (first | apply Kd.Q_alloc | apply Kd.Q_drewN | apply Kd.Q_drew)); exact HO_9.out) hb); have n2_ := Aside0.mk (below_step (by repeat (first | (with_reducible first | exact HB.out | apply below_alloc | apply pw_below_drewN | apply below_drew1) | exact HB.out)) hb); clear HO_4; clear HO_9; clear HB; have HO_4 := n0_; have HO_9 := n1_; have HB := n2_; clear n0_ n1_ n2_; (try clear hb); (try clear hb2); (try clear hk); (try clear hi)))
                      repeat (go_quiet (first | (go_at_call 11; (with_reducible refine (haywainlaw02_knows.calls kj11  t255 _ A69.out HR_.out).mono ?_); rintro e w72 ⟨rfl, hb⟩; have n0_ := Aside0.mk (Kd.R_below (by (with_reducible repeat (first | apply Kd.R_alloc | apply Kd.R_drewN | apply Kd.R_drew)); exact HO_4.out) hb); have n1_ := Aside0.mk (Kd.Q_below (by (with_reducible repeat (first | apply Kd.Q_alloc | apply Kd.Q_drewN | apply Kd.Q_drew)); exact HO_9.out) hb); have n2_ := Aside0.mk (below_step (by repeat (first | (with_reducible first | exact HB.out | apply below_alloc | apply pw_below_drewN | apply below_drew1) | exact HB.out)) hb); clear HO_4; clear HO_9; clear HB; have HO_4 := n0_; have HO_9 := n1_; have HB := n2_; clear n0_ n1_ n2_; (try clear hb); (try clear hb2); (try clear hk); (try clear hi))); try go_wp2_with (first | (go_at_call 11; (with_reducible refine (haywainlaw02_knows.calls kj11  t255 _ A69.out HR_.out).mono ?_); rintro e w72 ⟨rfl, hb⟩; have n0_ := Aside0.mk (Kd.R_below (by (with_reducible repeat (first | apply Kd.R_alloc | apply Kd.R_drewN | apply Kd.R_drew)); exact HO_4.out) hb); have n1_ := Aside0.mk (Kd.Q_below (by (with_reducible repeat (first | apply Kd.Q_alloc | apply Kd.Q_drewN | apply Kd.Q_drew)); exact HO_9.out) hb); have n2_ := Aside0.mk (below_step (by repeat (first | (with_reducible first | exact HB.out | apply below_alloc | apply pw_below_drewN | apply below_drew1) | exact HB.out)) hb); clear HO_4; clear HO_9; clear HB; have HO_4 := n0_; have HO_9 := n1_; have HB := n2_; clear n0_ n1_ n2_; (try clear hb); (try clear hb2); (try clear hk); (try clear hi))))
                      go_ret
                      exact ⟨by first | rfl | (simp [errW_none, errW_some] <;> rfl) | (simp [*, errW_none, errW_some] <;> rfl), by repeat (first | (with_reducible first | exact HB.out | apply below_alloc | apply pw_below_drewN | apply below_drew1) | exact HB.out)⟩
                    · rw [if_neg c68] at H
                      have c68b0 : ((t242.length : Int) == 0) = false := beq_eq_false_iff_ne.mpr c68
                      have c68b1 : ((t242.length : Int) != 0) = true := bne_iff_ne.mpr c68
                      have c68b2 : ¬ (t242 = []) := fun h_ => c68 (by rw [h_]; rfl)
                      obtain rfl := Option.some.inj H
                      exact absurd HR_.out (by decide)
                  · rw [if_neg c67] at H
                    have c67b0 : ((t229.length : Int) == 0) = false := beq_eq_false_iff_ne.mpr c67
                    have c67b1 : ((t229.length : Int) != 0) = true := bne_iff_ne.mpr c67
                    have c67b2 : ¬ (t229 = []) := fun h_ => c67 (by rw [h_]; rfl)
                    obtain rfl := Option.some.inj H
                    exact absurd HR_.out (by decide)
      · rw [if_neg c9] at H
        exact absurd H (by simp)
    · rw [if_neg c6] at H
      exact absurd H (by simp)

/-- THE ONE PURE STATEMENT of haywainlaw02_CodeTakes: yours. -/
def haywainlaw02_CodeTakes.Pure : Prop := ∀ (l0 : List Int), l0.length ≤ maxLen → l0.length * 1 ≤ 140737488351232 → (∀ x ∈ l0, (Lit.int .u8 x).wf = true) → ∃ k, haywainlaw02_CodeTakes.f k l0 = some true
theorem haywainlaw02_CodeTakes.walk (P : haywainlaw02_CodeTakes.Pure) (a0 : Option Addr) (len0 cap0 : Nat) (z0 : List Int) (w : World) (w0 : (a0 = none ∧ len0 = 0 ∧ cap0 = 0 ∧ z0 = []) ∨ ∃ x, a0 = some x ∧ len0 ≤ cap0 ∧ cap0 ≤ maxLen ∧ z0.length = cap0 ∧ (∀ i, i < z0.length → w.cell? (x.add i) = some (.int .u8 (z0.getD i 0))) ∧ ∀ n ∈ z0, (Lit.int .u8 n).wf = true) (y0 : len0 * 1 ≤ 140737488351232) :
    Calls Try.prog 8 #[.slice a0 len0 cap0] w fun e w' => e = .returned (.bool true) ∧ Below w.heap.size w w' := by
  obtain ⟨l0, rfl, hr0, hm0, hw0, hc0⟩ := ReadsInt.ofRowC w0
  obtain ⟨k, h⟩ := P l0 hm0 y0 hw0
  refine (haywainlaw02_CodeTakes.calls k _ _ l0 true w (Kd.C_of_reads (d := (0 : Int)) (h1 := fun _ => rfl) hr0) hc0 h rfl).mono ?_
  rintro e w' ⟨rfl, hd⟩
  exact ⟨rfl, hd⟩

end Go.Proofs.Ytpachjomjoaipaa.PCodeTakes
