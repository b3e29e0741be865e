-- Written by a program of this session out of the translation: a turned copy of the kit's print that takes functions proved by hand.
import Derived.Test.YtpachjomjoaipaaPCodeTakesx0
import Derived.Test.YtpachjomjoaipaaPCodeTakesx1
import Derived.Test.YtpachjomjoaipaaPCodeTakesx2
namespace Go.Proofs.Ytpachjomjoaipaa.PCodeTakes
open Go.RowKit Go.Proofs.YtpachjomjoaipaaW.PrintWords Go.Proofs.YtpachjomjoaipaaW.PrintLast Go.Proofs.YtpachjomjoaipaaW.PrintMore
attribute [local go_sem] max2_int min2_int max_two min_two max_three min_three max_four min_four   -- for this text's walks alone
set_option linter.unusedVariables false
set_option linter.unusedSimpArgs false

/-! ### haywainlaw02_knows: function 11 -/
def haywainlaw02_knows.f (k : Nat)  : Option (Bool) := (code_Frame.f k ([] : List Int)).bind fun bt167 => ((some (([] : List Int) : List Int)).bind fun y171 => (if y171.length + bt167.1.length < 140737488355328 then ((some (y171 ++ bt167.1 : List Int)).bind fun y174 => (if y174.length < 140737488355328 then ((code_TakeFrame.f k (y174 ++ [7])).bind fun bt180 => ((code_Num.f k (-5)).bind fun t187 => ((code_TakeNum.f k t187).bind fun bt190 => ((code_Sum.f k (([49, 50, 51, 52, 53, 54, 55, 56, 57] : List Int))).bind fun t198 => (if t198 = 3421780262 then (if (strOfNums bt167.1).toList = ([0, 0, 0, 0, 33, 68, 223, 28] : List UInt8) then (if bt167.2 = 0 then (if (bt180.1.length : Int) = 0 then (if (strOfNums bt180.2.1).toList = ([7] : List UInt8) then (if bt180.2.2 = 0 then (if bt190.1 = (-5) then (if bt190.2.2 = 0 then ((code_Text.f k (⟨#[97, 98]⟩ : ByteArray)).bind fun t199 => (some ((strOfNums t199).toList == ([0, 0, 0, 0, 0, 0, 0, 2, 97, 98] : List UInt8)))) else (some false)) else (some false)) else (some false)) else (some false)) else (some false)) else (some false)) else (some false)) else (some false)))))) else (none))) else (none)))
theorem haywainlaw02_knows.mono : ∀ k, LeO (haywainlaw02_knows.f k ) (haywainlaw02_knows.f (k + 1) ) := by
  intro  k
  unfold haywainlaw02_knows.f
  repeat' first
      | (with_reducible exact code_Frame.mono _ _)
      | (with_reducible exact code_Num.mono _ _)
      | (with_reducible exact code_Sum.mono _ _)
      | (with_reducible exact code_TakeFrame.mono _ _)
      | (with_reducible exact code_TakeNum.mono _ _)
      | (with_reducible exact code_Text.mono _ _)
      | (with_reducible exact LeO.refl _)
      | (with_reducible exact LeO.none _)
      | (with_reducible refine LeO.ite ?_ ?_)
      | (with_reducible refine LeO.bind ?_ (fun _ => ?_))
      | exact code_Frame.mono _ _
      | exact code_Num.mono _ _
      | exact code_Sum.mono _ _
      | exact code_TakeFrame.mono _ _
      | exact code_TakeNum.mono _ _
      | exact code_Text.mono _ _
      | exact LeO.none _
      | refine LeO.ite ?_ ?_
      | refine LeO.bind ?_ (fun _ => ?_)
set_option maxHeartbeats 8000000 in
set_option maxRecDepth 100000 in
theorem haywainlaw02_knows.calls (k : Nat)  (r : Bool) (w : World) (h : haywainlaw02_knows.f k  = some r) (hr_ : r = true) :
    Calls Try.prog 11 #[] w fun e w' => e = .returned (.bool r) ∧ Below w.heap.size w w' := by
  have HR_ := Aside0.mk hr_
  clear hr_
  have HB := Aside0.mk (Below.refl w.heap.size w)
  have H : ((code_Frame.f k ([] : List Int)).bind fun bt167 => ((some (([] : List Int) : List Int)).bind fun y171 => (if y171.length + bt167.1.length < 140737488355328 then ((some (y171 ++ bt167.1 : List Int)).bind fun y174 => (if y174.length < 140737488355328 then ((code_TakeFrame.f k (y174 ++ [7])).bind fun bt180 => ((code_Num.f k (-5)).bind fun t187 => ((code_TakeNum.f k t187).bind fun bt190 => ((code_Sum.f k (([49, 50, 51, 52, 53, 54, 55, 56, 57] : List Int))).bind fun t198 => (if t198 = 3421780262 then (if (strOfNums bt167.1).toList = ([0, 0, 0, 0, 33, 68, 223, 28] : List UInt8) then (if bt167.2 = 0 then (if (bt180.1.length : Int) = 0 then (if (strOfNums bt180.2.1).toList = ([7] : List UInt8) then (if bt180.2.2 = 0 then (if bt190.1 = (-5) then (if bt190.2.2 = 0 then ((code_Text.f k (⟨#[97, 98]⟩ : ByteArray)).bind fun t199 => (some ((strOfNums t199).toList == ([0, 0, 0, 0, 0, 0, 0, 2, 97, 98] : List UInt8)))) else (some false)) else (some false)) else (some false)) else (some false)) else (some false)) else (some false)) else (some false)) else (some false)))))) else (none))) else (none)))) = some r := h
  clear h
  replace H := Option.bind_eq_some_iff.mp H
  obtain ⟨⟨t167, t168⟩, A10, H⟩ := H
  replace H : ((some (([] : List Int) : List Int)).bind fun y171 => (if y171.length + t167.length < 140737488355328 then ((some (y171 ++ t167 : List Int)).bind fun y174 => (if y174.length < 140737488355328 then ((code_TakeFrame.f k (y174 ++ [7])).bind fun bt180 => ((code_Num.f k (-5)).bind fun t187 => ((code_TakeNum.f k t187).bind fun bt190 => ((code_Sum.f k (([49, 50, 51, 52, 53, 54, 55, 56, 57] : List Int))).bind fun t198 => (if t198 = 3421780262 then (if (strOfNums t167).toList = ([0, 0, 0, 0, 33, 68, 223, 28] : List UInt8) then (if t168 = 0 then (if (bt180.1.length : Int) = 0 then (if (strOfNums bt180.2.1).toList = ([7] : List UInt8) then (if bt180.2.2 = 0 then (if bt190.1 = (-5) then (if bt190.2.2 = 0 then ((code_Text.f k (⟨#[97, 98]⟩ : ByteArray)).bind fun t199 => (some ((strOfNums t199).toList == ([0, 0, 0, 0, 0, 0, 0, 2, 97, 98] : List UInt8)))) else (some false)) else (some false)) else (some false)) else (some false)) else (some false)) else (some false)) else (some false)) else (some false)))))) else (none))) else (none))) = some r := H
  have A1 := Aside0.mk A10
  clear A10
  obtain ⟨y171, hy171⟩ : ∃ y_ : List Int, y_ = (([] : List Int)) := ⟨_, rfl⟩
  replace H : (if y171.length + t167.length < 140737488355328 then ((some (y171 ++ t167 : List Int)).bind fun y174 => (if y174.length < 140737488355328 then ((code_TakeFrame.f k (y174 ++ [7])).bind fun bt180 => ((code_Num.f k (-5)).bind fun t187 => ((code_TakeNum.f k t187).bind fun bt190 => ((code_Sum.f k (([49, 50, 51, 52, 53, 54, 55, 56, 57] : List Int))).bind fun t198 => (if t198 = 3421780262 then (if (strOfNums t167).toList = ([0, 0, 0, 0, 33, 68, 223, 28] : List UInt8) then (if t168 = 0 then (if (bt180.1.length : Int) = 0 then (if (strOfNums bt180.2.1).toList = ([7] : List UInt8) then (if bt180.2.2 = 0 then (if bt190.1 = (-5) then (if bt190.2.2 = 0 then ((code_Text.f k (⟨#[97, 98]⟩ : ByteArray)).bind fun t199 => (some ((strOfNums t199).toList == ([0, 0, 0, 0, 0, 0, 0, 2, 97, 98] : List UInt8)))) else (some false)) else (some false)) else (some false)) else (some false)) else (some false)) else (some false)) else (some false)) else (some false)))))) else (none))) else (none)) = some r := by first | (rw [hy171]; with_reducible exact H) | (have H2_ := (Option.bind_some _ _).symm.trans H; rw [hy171]; with_reducible exact H2_) | (have H2_ := (Option.bind_some _ _).symm.trans H; with_reducible exact H2_) | with_reducible exact H | (rw [hy171]; exact H) | exact H
  have Ny171 := Aside0.mk hy171
  clear hy171
  by_cases c2 : y171.length + t167.length < 140737488355328
  · rw [if_pos c2] at H
    have LMc2 := Aside0.mk c2
    clear c2
    obtain ⟨y174, hy174⟩ : ∃ y_ : List Int, y_ = (y171 ++ t167) := ⟨_, rfl⟩
    replace H : (if y174.length < 140737488355328 then ((code_TakeFrame.f k (y174 ++ [7])).bind fun bt180 => ((code_Num.f k (-5)).bind fun t187 => ((code_TakeNum.f k t187).bind fun bt190 => ((code_Sum.f k (([49, 50, 51, 52, 53, 54, 55, 56, 57] : List Int))).bind fun t198 => (if t198 = 3421780262 then (if (strOfNums t167).toList = ([0, 0, 0, 0, 33, 68, 223, 28] : List UInt8) then (if t168 = 0 then (if (bt180.1.length : Int) = 0 then (if (strOfNums bt180.2.1).toList = ([7] : List UInt8) then (if bt180.2.2 = 0 then (if bt190.1 = (-5) then (if bt190.2.2 = 0 then ((code_Text.f k (⟨#[97, 98]⟩ : ByteArray)).bind fun t199 => (some ((strOfNums t199).toList == ([0, 0, 0, 0, 0, 0, 0, 2, 97, 98] : List UInt8)))) else (some false)) else (some false)) else (some false)) else (some false)) else (some false)) else (some false)) else (some false)) else (some false)))))) else (none)) = some r := by first | (rw [hy174]; with_reducible exact H) | (have H2_ := (Option.bind_some _ _).symm.trans H; rw [hy174]; with_reducible exact H2_) | (have H2_ := (Option.bind_some _ _).symm.trans H; with_reducible exact H2_) | with_reducible exact H | (rw [hy174]; exact H) | exact H
    have Ny174 := Aside0.mk hy174
    clear hy174
    by_cases c3 : y174.length < 140737488355328
    · rw [if_pos c3] at H
      have LMc3 := Aside0.mk c3
      clear c3
      obtain ⟨y177, hy177⟩ : ∃ y_ : List Int, y_ = (y174 ++ [7]) := ⟨_, rfl⟩
      replace H : ((code_TakeFrame.f k y177).bind fun bt180 => ((code_Num.f k (-5)).bind fun t187 => ((code_TakeNum.f k t187).bind fun bt190 => ((code_Sum.f k (([49, 50, 51, 52, 53, 54, 55, 56, 57] : List Int))).bind fun t198 => (if t198 = 3421780262 then (if (strOfNums t167).toList = ([0, 0, 0, 0, 33, 68, 223, 28] : List UInt8) then (if t168 = 0 then (if (bt180.1.length : Int) = 0 then (if (strOfNums bt180.2.1).toList = ([7] : List UInt8) then (if bt180.2.2 = 0 then (if bt190.1 = (-5) then (if bt190.2.2 = 0 then ((code_Text.f k (⟨#[97, 98]⟩ : ByteArray)).bind fun t199 => (some ((strOfNums t199).toList == ([0, 0, 0, 0, 0, 0, 0, 2, 97, 98] : List UInt8)))) else (some false)) else (some false)) else (some false)) else (some false)) else (some false)) else (some false)) else (some false)) else (some false)))))) = some r := by first | (rw [hy177]; with_reducible exact H) | (have H2_ := (Option.bind_some _ _).symm.trans H; rw [hy177]; with_reducible exact H2_) | (have H2_ := (Option.bind_some _ _).symm.trans H; with_reducible exact H2_) | with_reducible exact H | (rw [hy177]; exact H) | exact H
      have Ny177 := Aside0.mk hy177
      clear hy177
      replace H := Option.bind_eq_some_iff.mp H
      obtain ⟨⟨t180, t181, t182⟩, A40, H⟩ := H
      replace H : ((code_Num.f k (-5)).bind fun t187 => ((code_TakeNum.f k t187).bind fun bt190 => ((code_Sum.f k (([49, 50, 51, 52, 53, 54, 55, 56, 57] : List Int))).bind fun t198 => (if t198 = 3421780262 then (if (strOfNums t167).toList = ([0, 0, 0, 0, 33, 68, 223, 28] : List UInt8) then (if t168 = 0 then (if (t180.length : Int) = 0 then (if (strOfNums t181).toList = ([7] : List UInt8) then (if t182 = 0 then (if bt190.1 = (-5) then (if bt190.2.2 = 0 then ((code_Text.f k (⟨#[97, 98]⟩ : ByteArray)).bind fun t199 => (some ((strOfNums t199).toList == ([0, 0, 0, 0, 0, 0, 0, 2, 97, 98] : List UInt8)))) else (some false)) else (some false)) else (some false)) else (some false)) else (some false)) else (some false)) else (some false)) else (some false))))) = some r := H
      have A4 := Aside0.mk A40
      clear A40
      replace H := Option.bind_eq_some_iff.mp H
      obtain ⟨t187, A50, H⟩ := H
      replace H : ((code_TakeNum.f k t187).bind fun bt190 => ((code_Sum.f k (([49, 50, 51, 52, 53, 54, 55, 56, 57] : List Int))).bind fun t198 => (if t198 = 3421780262 then (if (strOfNums t167).toList = ([0, 0, 0, 0, 33, 68, 223, 28] : List UInt8) then (if t168 = 0 then (if (t180.length : Int) = 0 then (if (strOfNums t181).toList = ([7] : List UInt8) then (if t182 = 0 then (if bt190.1 = (-5) then (if bt190.2.2 = 0 then ((code_Text.f k (⟨#[97, 98]⟩ : ByteArray)).bind fun t199 => (some ((strOfNums t199).toList == ([0, 0, 0, 0, 0, 0, 0, 2, 97, 98] : List UInt8)))) else (some false)) else (some false)) else (some false)) else (some false)) else (some false)) else (some false)) else (some false)) else (some false)))) = some r := H
      have A5 := Aside0.mk A50
      clear A50
      replace H := Option.bind_eq_some_iff.mp H
      obtain ⟨⟨t190, t191, t192⟩, A60, H⟩ := H
      replace H : ((code_Sum.f k (([49, 50, 51, 52, 53, 54, 55, 56, 57] : List Int))).bind fun t198 => (if t198 = 3421780262 then (if (strOfNums t167).toList = ([0, 0, 0, 0, 33, 68, 223, 28] : List UInt8) then (if t168 = 0 then (if (t180.length : Int) = 0 then (if (strOfNums t181).toList = ([7] : List UInt8) then (if t182 = 0 then (if t190 = (-5) then (if t192 = 0 then ((code_Text.f k (⟨#[97, 98]⟩ : ByteArray)).bind fun t199 => (some ((strOfNums t199).toList == ([0, 0, 0, 0, 0, 0, 0, 2, 97, 98] : List UInt8)))) else (some false)) else (some false)) else (some false)) else (some false)) else (some false)) else (some false)) else (some false)) else (some false))) = some r := H
      have A6 := Aside0.mk A60
      clear A60
      obtain ⟨y195, hy195⟩ : ∃ y_ : List Int, y_ = (([49, 50, 51, 52, 53, 54, 55, 56, 57] : List Int)) := ⟨_, rfl⟩
      replace H : ((code_Sum.f k y195).bind fun t198 => (if t198 = 3421780262 then (if (strOfNums t167).toList = ([0, 0, 0, 0, 33, 68, 223, 28] : List UInt8) then (if t168 = 0 then (if (t180.length : Int) = 0 then (if (strOfNums t181).toList = ([7] : List UInt8) then (if t182 = 0 then (if t190 = (-5) then (if t192 = 0 then ((code_Text.f k (⟨#[97, 98]⟩ : ByteArray)).bind fun t199 => (some ((strOfNums t199).toList == ([0, 0, 0, 0, 0, 0, 0, 2, 97, 98] : List UInt8)))) else (some false)) else (some false)) else (some false)) else (some false)) else (some false)) else (some false)) else (some false)) else (some false))) = some r := by first | (rw [hy195]; with_reducible exact H) | (have H2_ := (Option.bind_some _ _).symm.trans H; rw [hy195]; with_reducible exact H2_) | (have H2_ := (Option.bind_some _ _).symm.trans H; with_reducible exact H2_) | with_reducible exact H | (rw [hy195]; exact H) | exact H
      have Ny195 := Aside0.mk hy195
      clear hy195
      replace H := Option.bind_eq_some_iff.mp H
      obtain ⟨t198, A70, H⟩ := H
      replace H : (if t198 = 3421780262 then (if (strOfNums t167).toList = ([0, 0, 0, 0, 33, 68, 223, 28] : List UInt8) then (if t168 = 0 then (if (t180.length : Int) = 0 then (if (strOfNums t181).toList = ([7] : List UInt8) then (if t182 = 0 then (if t190 = (-5) then (if t192 = 0 then ((code_Text.f k (⟨#[97, 98]⟩ : ByteArray)).bind fun t199 => (some ((strOfNums t199).toList == ([0, 0, 0, 0, 0, 0, 0, 2, 97, 98] : List UInt8)))) else (some false)) else (some false)) else (some false)) else (some false)) else (some false)) else (some false)) else (some false)) else (some false)) = some r := H
      have A7 := Aside0.mk A70
      clear A70
      by_cases c8 : t198 = 3421780262
      · rw [if_pos c8] at H
        have c8b0 : (t198 == 3421780262) = true := beq_iff_eq.mpr c8
        have c8b1 : (t198 != 3421780262) = false := bne_eq_false_iff_eq.mpr c8
        clear c8
        by_cases c9 : (strOfNums t167).toList = ([0, 0, 0, 0, 33, 68, 223, 28] : List UInt8)
        · rw [if_pos c9] at H
          have c9b0 : ((strOfNums t167).toList == ([0, 0, 0, 0, 33, 68, 223, 28] : List UInt8)) = true := beq_iff_eq.mpr c9
          have c9b1 : ((strOfNums t167).toList != ([0, 0, 0, 0, 33, 68, 223, 28] : List UInt8)) = false := bne_eq_false_iff_eq.mpr c9
          clear c9
          by_cases c10 : t168 = 0
          · rw [if_pos c10] at H
            have c10b0 : (t168 == 0) = true := beq_iff_eq.mpr c10
            have c10b1 : (t168 != 0) = false := bne_eq_false_iff_eq.mpr c10
            clear c10
            by_cases c11 : (t180.length : Int) = 0
            · rw [if_pos c11] at H
              have c11b0 : ((t180.length : Int) == 0) = true := beq_iff_eq.mpr c11
              have c11b1 : ((t180.length : Int) != 0) = false := bne_eq_false_iff_eq.mpr c11
              clear c11
              by_cases c12 : (strOfNums t181).toList = ([7] : List UInt8)
              · rw [if_pos c12] at H
                have c12b0 : ((strOfNums t181).toList == ([7] : List UInt8)) = true := beq_iff_eq.mpr c12
                have c12b1 : ((strOfNums t181).toList != ([7] : List UInt8)) = false := bne_eq_false_iff_eq.mpr c12
                clear c12
                by_cases c13 : t182 = 0
                · rw [if_pos c13] at H
                  have c13b0 : (t182 == 0) = true := beq_iff_eq.mpr c13
                  have c13b1 : (t182 != 0) = false := bne_eq_false_iff_eq.mpr c13
                  clear c13
                  by_cases c14 : t190 = (-5)
                  · rw [if_pos c14] at H
                    have c14b0 : (t190 == (-5)) = true := beq_iff_eq.mpr c14
                    have c14b1 : (t190 != (-5)) = false := bne_eq_false_iff_eq.mpr c14
                    clear c14
                    by_cases c15 : t192 = 0
                    · rw [if_pos c15] at H
                      have c15b0 : (t192 == 0) = true := beq_iff_eq.mpr c15
                      have c15b1 : (t192 != 0) = false := bne_eq_false_iff_eq.mpr c15
                      clear c15
                      replace H := Option.bind_eq_some_iff.mp H
                      obtain ⟨t199, A160, H⟩ := H
                      replace H : (some ((strOfNums t199).toList == ([0, 0, 0, 0, 0, 0, 0, 2, 97, 98] : List UInt8))) = some r := H
                      have A16 := Aside0.mk A160
                      clear A160
                      obtain rfl := Option.some.inj H
                      go_enter Try.func11, Try.ntmps11
                      go_wp2_with (first | ((with_reducible refine gate_callee (f := 18) rfl ?_); refine goesL_ (some 10) rfl rfl Try.func18 (by kernel_rfl) rfl #[.slice none 0 0] rfl (by (try simp only [List.map_toArray, List.map_cons, List.map_nil]); first | done | rfl | (simp only [List.length_drop, List.length_take]; rfl)) ?_; (refine (code_Frame.calls k _ _ ([] : List Int) t167 t168 _ ?side1 ?side2 A1.out).mono ?_); (case side1 => exact Kd.C_nil _ _); (case side2 => exact Nat.le_refl _); rintro e w17 ⟨v169, rfl, ho0, hb⟩; refine ⟨_, rfl, ?_⟩; have n0_ := Aside0.mk (Kd.R_lower ho0 (below_size (by repeat (first | (with_reducible first | exact HB.out | apply below_alloc | apply pw_below_drewN | apply below_drew1) | exact HB.out)))); have n1_ := Aside0.mk (below_step (by repeat (first | (with_reducible first | exact HB.out | apply below_alloc | apply pw_below_drewN | apply below_drew1) | exact HB.out)) hb); clear HB; have HO170 := n0_; have HB := n1_; clear n0_ n1_; (try clear hb); (try clear hb2); (try clear hk); (try clear hi); (try clear ho0)) | ((with_reducible refine gate_dst (N := 14) rfl ?_); (try (refine gate_guard (by rfl) ?_; dsimp only)); refine Kd.R_lit (Kd.int .u8) _ 5 ?hg (N := 14) ?hd (xs := ([] : List Int)) (inner := []) (ok := fun _ => True) (okp := fun _ => True) ?hr ?hp (fun _ hk => hk) trivial (Below.refl _ _) (Nat.le_refl _) (by simp) ?_; (case hd => rfl); (case hg => rfl); (case hr => first | (go_simp; done) | (go_simp; rfl)); (case hp => exact (Reps.none _ _)); intro v172 w18 ho19 hb hg_ hnew_; clear hg_ hnew_; (first | rw [← Ny171.out] at ho19 | (simp only [Int.reduceToNat] at ho19; rw [← Ny171.out] at ho19)); have n0_ := Aside0.mk (Kd.R_elder' (by (with_reducible repeat (first | apply Kd.R_alloc | apply Kd.R_drewN | apply Kd.R_drew)); exact HO170.out) (Kd.R_base ho19) hb); have n1_ := Aside0.mk (Kd.R_lower (Kd.R_new' ho19 (Kd.R_lt (by (with_reducible repeat (first | apply Kd.R_alloc | apply Kd.R_drewN | apply Kd.R_drew)); exact HO170.out))) (below_size (by repeat (first | (with_reducible first | exact HB.out | apply below_alloc | apply pw_below_drewN | apply below_drew1) | exact HB.out)))); have n2_ := Aside0.mk (below_step (by repeat (first | (with_reducible first | exact HB.out | apply below_alloc | apply pw_below_drewN | apply below_drew1) | exact HB.out)) hb); clear HO170; clear HB; have HO170 := n0_; have HO173 := n1_; have HB := n2_; clear n0_ n1_ n2_; clear hb ho19; obtain ⟨Ao21, co21, eo21⟩ := Kd.R_slice HO170.out; subst eo21) | ((with_reducible refine gate_builtin (b := .append) (xs := #[.tmp 14, .tmp 15]) rfl ?_); (try (refine gate_guard (by rfl) ?_; dsimp only)); at_builtin; refine Kd.R_append_rows (Kd.int .u8) (w0 := w) w.heap.size rfl (.tmp 14) (.tmp 15) 22 5 (.int .u8 0) 1 rfl Try.underlying22 info5 rfl (by decide) (by omega) v172 y171 t167 _ _ _ (fun k_ => some k_ ≠ (.slice Ao21 t167.length co21 : Value).ownBlock) (fun _ => False) rfl rfl ?aO ?aR (fun _ _ h => h) (fun _ h => h.elim) ?aF ?aB ?aS ?aL ?_; (case aR => repeat (first | exact (Kd.R_reads' HO170.out).2.2 | (with_reducible refine Kd.C_alloc ?_ _) | (with_reducible refine Kd.C_drewN ?_ _) | (with_reducible refine Kd.C_drew ?_))); (case aB => exact (by repeat (first | (with_reducible first | exact HB.out | apply below_alloc | apply pw_below_drewN | apply below_drew1) | exact HB.out))); (case aF => exact (fun k_ hk => Kd.fresh' (Kd.R_lt (by (with_reducible repeat (first | apply Kd.R_alloc | apply Kd.R_drewN | apply Kd.R_drew)); exact HO170.out)) k_ hk)); (case aO => exact (by (with_reducible repeat (first | apply Kd.R_alloc | apply Kd.R_drewN | apply Kd.R_drew)); exact Kd.R_mono HO173.out (fun _ hk => hk.2))); (case aS => exact (below_size (by repeat (first | (with_reducible first | exact HB.out | apply below_alloc | apply pw_below_drewN | apply below_drew1) | exact HB.out)))); (case aL => have := LMc2.out; omega); intro v175 w20 ho hb hg hat; rw [← Ny174.out] at ho; have n0_ := Aside0.mk (Kd.R_after (ok := (fun _ => True)) (by (with_reducible repeat (first | apply Kd.R_alloc | apply Kd.R_drewN | apply Kd.R_drew)); exact HO170.out) hg hat); have n1_ := Aside0.mk (hb); have n2_ := Aside0.mk (ho); clear HO170; clear HB; clear HO173; have HO170 := n0_; have HB := n1_; have HO176 := n2_; clear n0_ n1_ n2_; clear ho hb hg hat) | ((with_reducible refine gate_builtin (b := .append) (xs := #[.tmp 16, .tmp 17]) rfl ?_); (try (refine gate_guard (by rfl) ?_; dsimp only)); at_builtin; refine Kd.R_append (Kd.int .u8) (w0 := w) w.heap.size rfl (.tmp 16) (.tmp 17) 22 5 (.int .u8 0) 1 rfl Try.underlying22 info5 rfl (by decide) (by omega) v175 y174 7 [.int .u8 7] (fun k_ => some k_ ≠ (.slice Ao21 t167.length co21 : Value).ownBlock) (fun _ => False) rfl rfl ?aP (fun _ hk => hk.elim) ?aF ?aO ?aB ?aS ?aL ?_; (case aP => exact rfl); (case aB => exact (by repeat (first | (with_reducible first | exact HB.out | apply below_alloc | apply pw_below_drewN | apply below_drew1) | exact HB.out))); (case aF => exact (fun k_ hk => Kd.fresh' (Kd.R_lt (by (with_reducible repeat (first | apply Kd.R_alloc | apply Kd.R_drewN | apply Kd.R_drew)); exact HO170.out)) k_ hk)); (case aO => exact (by (with_reducible repeat (first | apply Kd.R_alloc | apply Kd.R_drewN | apply Kd.R_drew)); exact HO176.out)); (case aS => exact (below_size (by repeat (first | (with_reducible first | exact HB.out | apply below_alloc | apply pw_below_drewN | apply below_drew1) | exact HB.out)))); (case aL => have := LMc3.out; omega); intro v178 w22 ho hb hg hat; rw [← Ny177.out] at ho; have n0_ := Aside0.mk (Kd.R_after (ok := (fun _ => True)) (by (with_reducible repeat (first | apply Kd.R_alloc | apply Kd.R_drewN | apply Kd.R_drew)); exact HO170.out) hg hat); have n1_ := Aside0.mk (hb); have n2_ := Aside0.mk (ho); clear HO170; clear HB; clear HO176; have HO170 := n0_; have HB := n1_; have HO179 := n2_; clear n0_ n1_ n2_; clear ho hb hg hat; obtain ⟨Ao23, co23, eo23⟩ := Kd.R_slice HO179.out; subst eo23) | ((with_reducible refine gate_callee (f := 20) rfl ?_); refine goesL_ (some 19) rfl rfl Try.func20 (by kernel_rfl) rfl #[.slice Ao23 y177.length co23] rfl (by (try simp only [List.map_toArray, List.map_cons, List.map_nil]); first | done | rfl | (simp only [List.length_drop, List.length_take]; rfl)) ?_; (with_reducible refine (code_TakeFrame.calls k _ _ y177 t180 t181 t182 _ ?side1 ?side2 A4.out).mono ?_); (case side1 => repeat (first | exact (Kd.R_reads' HO179.out).2.2 | (with_reducible refine Kd.C_alloc ?_ _) | (with_reducible refine Kd.C_drewN ?_ _) | (with_reducible refine Kd.C_drew ?_))); (case side2 => exact (Kd.R_reads' HO179.out).2.1); rintro e w24 ⟨v183, v185, rfl, ho0, ho1, hb⟩; refine ⟨_, rfl, ?_⟩; have n0_ := Aside0.mk (Kd.R_mono (Kd.R_told (Kd.R_told (Kd.R_old (by (with_reducible repeat (first | apply Kd.R_alloc | apply Kd.R_drewN | apply Kd.R_drew)); exact HO170.out) hb) (Kd.R_base ho0)) (Kd.R_base ho1)) (fun _ h_ => h_.1)); have n1_ := Aside0.mk (Kd.R_mono (Kd.R_told (Kd.R_told (Kd.R_old (by (with_reducible repeat (first | apply Kd.R_alloc | apply Kd.R_drewN | apply Kd.R_drew)); exact HO179.out) hb) (Kd.R_base ho0)) (Kd.R_base ho1)) (fun _ h_ => h_.1)); have n2_ := Aside0.mk (Kd.R_lower (Kd.R_new' (Kd.R_new' ho0 (Kd.R_lt (by (with_reducible repeat (first | apply Kd.R_alloc | apply Kd.R_drewN | apply Kd.R_drew)); exact HO170.out))) (Kd.R_lt (by (with_reducible repeat (first | apply Kd.R_alloc | apply Kd.R_drewN | apply Kd.R_drew)); exact HO179.out))) (below_size (by repeat (first | (with_reducible first | exact HB.out | apply below_alloc | apply pw_below_drewN | apply below_drew1) | exact HB.out)))); have n3_ := Aside0.mk (Kd.R_lower (Kd.R_new' (Kd.R_new' ho1 (Kd.R_lt (by (with_reducible repeat (first | apply Kd.R_alloc | apply Kd.R_drewN | apply Kd.R_drew)); exact HO170.out))) (Kd.R_lt (by (with_reducible repeat (first | apply Kd.R_alloc | apply Kd.R_drewN | apply Kd.R_drew)); exact HO179.out))) (below_size (by repeat (first | (with_reducible first | exact HB.out | apply below_alloc | apply pw_below_drewN | apply below_drew1) | exact HB.out)))); have n4_ := Aside0.mk (below_step (by repeat (first | (with_reducible first | exact HB.out | apply below_alloc | apply pw_below_drewN | apply below_drew1) | exact HB.out)) hb); clear HO170; clear HO179; clear HB; have HO170 := n0_; have HO179 := n1_; have HO184 := n2_; have HO186 := n3_; have HB := n4_; clear n0_ n1_ n2_ n3_ n4_; (try clear hb); (try clear hb2); (try clear hk); (try clear hi); (try clear ho0); (try clear ho1)) | ((with_reducible refine gate_callee (f := 14) rfl ?_); refine goesL_ (some 24) rfl rfl Try.func14 (by kernel_rfl) rfl #[.int .i64 (-5)] rfl (by (try simp only [List.map_toArray, List.map_cons, List.map_nil]); first | done | rfl | (simp only [List.length_drop, List.length_take]; rfl)) ?_; (with_reducible refine (code_Num.calls k (-5) t187 _ A5.out).mono ?_); rintro e w25 ⟨v188, rfl, ho0, hb⟩; refine ⟨_, rfl, ?_⟩; have n0_ := Aside0.mk (Kd.R_elder' (by (with_reducible repeat (first | apply Kd.R_alloc | apply Kd.R_drewN | apply Kd.R_drew)); exact HO170.out) (Kd.R_base ho0) hb); have n1_ := Aside0.mk (Kd.R_elder' (by (with_reducible repeat (first | apply Kd.R_alloc | apply Kd.R_drewN | apply Kd.R_drew)); exact HO179.out) (Kd.R_base ho0) hb); have n2_ := Aside0.mk (Kd.R_elder' (by (with_reducible repeat (first | apply Kd.R_alloc | apply Kd.R_drewN | apply Kd.R_drew)); exact HO184.out) (Kd.R_base ho0) hb); have n3_ := Aside0.mk (Kd.R_elder' (by (with_reducible repeat (first | apply Kd.R_alloc | apply Kd.R_drewN | apply Kd.R_drew)); exact HO186.out) (Kd.R_base ho0) hb); have n4_ := Aside0.mk (Kd.R_lower (Kd.R_new' (Kd.R_new' (Kd.R_new' (Kd.R_new' ho0 (Kd.R_lt (by (with_reducible repeat (first | apply Kd.R_alloc | apply Kd.R_drewN | apply Kd.R_drew)); exact HO170.out))) (Kd.R_lt (by (with_reducible repeat (first | apply Kd.R_alloc | apply Kd.R_drewN | apply Kd.R_drew)); exact HO179.out))) (Kd.R_lt (by (with_reducible repeat (first | apply Kd.R_alloc | apply Kd.R_drewN | apply Kd.R_drew)); exact HO184.out))) (Kd.R_lt (by (with_reducible repeat (first | apply Kd.R_alloc | apply Kd.R_drewN | apply Kd.R_drew)); exact HO186.out))) (below_size (by repeat (first | (with_reducible first | exact HB.out | apply below_alloc | apply pw_below_drewN | apply below_drew1) | exact HB.out)))); have n5_ := Aside0.mk (below_step (by repeat (first | (with_reducible first | exact HB.out | apply below_alloc | apply pw_below_drewN | apply below_drew1) | exact HB.out)) hb); clear HO170; clear HO179; clear HO184; clear HO186; clear HB; have HO170 := n0_; have HO179 := n1_; have HO184 := n2_; have HO186 := n3_; have HO189 := n4_; have HB := n5_; clear n0_ n1_ n2_ n3_ n4_ n5_; (try clear hb); (try clear hb2); (try clear hk); (try clear hi); (try clear ho0); obtain ⟨Ao26, co26, eo26⟩ := Kd.R_slice HO189.out; subst eo26) | ((with_reducible refine gate_callee (f := 22) rfl ?_); refine goesL_ (some 25) rfl rfl Try.func22 (by kernel_rfl) rfl #[.slice Ao26 t187.length co26] rfl (by (try simp only [List.map_toArray, List.map_cons, List.map_nil]); first | done | rfl | (simp only [List.length_drop, List.length_take]; rfl)) ?_; (with_reducible refine (code_TakeNum.calls k _ _ t187 t190 t191 t192 _ ?side1 ?side2 A6.out).mono ?_); (case side1 => repeat (first | exact (Kd.R_reads' HO189.out).2.2 | (with_reducible refine Kd.C_alloc ?_ _) | (with_reducible refine Kd.C_drewN ?_ _) | (with_reducible refine Kd.C_drew ?_))); (case side2 => exact (Kd.R_reads' HO189.out).2.1); rintro e w27 ⟨v193, rfl, ho0, hb⟩; refine ⟨_, rfl, ?_⟩; have n0_ := Aside0.mk (Kd.R_elder' (by (with_reducible repeat (first | apply Kd.R_alloc | apply Kd.R_drewN | apply Kd.R_drew)); exact HO170.out) (Kd.R_base ho0) hb); have n1_ := Aside0.mk (Kd.R_elder' (by (with_reducible repeat (first | apply Kd.R_alloc | apply Kd.R_drewN | apply Kd.R_drew)); exact HO179.out) (Kd.R_base ho0) hb); have n2_ := Aside0.mk (Kd.R_elder' (by (with_reducible repeat (first | apply Kd.R_alloc | apply Kd.R_drewN | apply Kd.R_drew)); exact HO184.out) (Kd.R_base ho0) hb); have n3_ := Aside0.mk (Kd.R_elder' (by (with_reducible repeat (first | apply Kd.R_alloc | apply Kd.R_drewN | apply Kd.R_drew)); exact HO186.out) (Kd.R_base ho0) hb); have n4_ := Aside0.mk (Kd.R_elder' (by (with_reducible repeat (first | apply Kd.R_alloc | apply Kd.R_drewN | apply Kd.R_drew)); exact HO189.out) (Kd.R_base ho0) hb); have n5_ := Aside0.mk (Kd.R_lower (Kd.R_new' (Kd.R_new' (Kd.R_new' (Kd.R_new' (Kd.R_new' ho0 (Kd.R_lt (by (with_reducible repeat (first | apply Kd.R_alloc | apply Kd.R_drewN | apply Kd.R_drew)); exact HO170.out))) (Kd.R_lt (by (with_reducible repeat (first | apply Kd.R_alloc | apply Kd.R_drewN | apply Kd.R_drew)); exact HO179.out))) (Kd.R_lt (by (with_reducible repeat (first | apply Kd.R_alloc | apply Kd.R_drewN | apply Kd.R_drew)); exact HO184.out))) (Kd.R_lt (by (with_reducible repeat (first | apply Kd.R_alloc | apply Kd.R_drewN | apply Kd.R_drew)); exact HO186.out))) (Kd.R_lt (by (with_reducible repeat (first | apply Kd.R_alloc | apply Kd.R_drewN | apply Kd.R_drew)); exact HO189.out))) (below_size (by repeat (first | (with_reducible first | exact HB.out | apply below_alloc | apply pw_below_drewN | apply below_drew1) | exact HB.out)))); have n6_ := Aside0.mk (below_step (by repeat (first | (with_reducible first | exact HB.out | apply below_alloc | apply pw_below_drewN | apply below_drew1) | exact HB.out)) hb); clear HO170; clear HO179; clear HO184; clear HO186; clear HO189; clear HB; have HO170 := n0_; have HO179 := n1_; have HO184 := n2_; have HO186 := n3_; have HO189 := n4_; have HO194 := n5_; have HB := n6_; clear n0_ n1_ n2_ n3_ n4_ n5_ n6_; (try clear hb); (try clear hb2); (try clear hk); (try clear hi); (try clear ho0)) | ((with_reducible refine gate_dst (N := 29) rfl ?_); (try (refine gate_guard (by rfl) ?_; dsimp only)); refine V_lit2 _ 5 22 ?hg (N := 29) ?hd ?hg2 (xs := ([49, 50, 51, 52, 53, 54, 55, 56, 57] : List Int)) ?hr ?ho2 Try.underlying22 Try.underlying5 ?hN (ok := fun _ => True) trivial (Below.refl _ _) (Nat.le_refl _) (by simp) ?_; (case hd => rfl); (case hg => rfl); (case hg2 => rfl); (case hr => (simp only [List.map_cons, List.map_nil]; first | (go_simp; done) | (go_simp; rfl))); (case ho2 => rfl); (case hN => simp); intro v196 w28 ho29 hb hg_ hnew_; clear hg_ hnew_; (first | rw [← Ny195.out] at ho29 | (simp only [Int.reduceToNat] at ho29; rw [← Ny195.out] at ho29)); have n0_ := Aside0.mk (Kd.R_below (by (with_reducible repeat (first | apply Kd.R_alloc | apply Kd.R_drewN | apply Kd.R_drew)); exact HO170.out) hb); have n1_ := Aside0.mk (Kd.R_below (by (with_reducible repeat (first | apply Kd.R_alloc | apply Kd.R_drewN | apply Kd.R_drew)); exact HO179.out) hb); have n2_ := Aside0.mk (Kd.R_below (by (with_reducible repeat (first | apply Kd.R_alloc | apply Kd.R_drewN | apply Kd.R_drew)); exact HO184.out) hb); have n3_ := Aside0.mk (Kd.R_below (by (with_reducible repeat (first | apply Kd.R_alloc | apply Kd.R_drewN | apply Kd.R_drew)); exact HO186.out) hb); have n4_ := Aside0.mk (Kd.R_below (by (with_reducible repeat (first | apply Kd.R_alloc | apply Kd.R_drewN | apply Kd.R_drew)); exact HO189.out) hb); have n5_ := Aside0.mk (Kd.R_below (by (with_reducible repeat (first | apply Kd.R_alloc | apply Kd.R_drewN | apply Kd.R_drew)); exact HO194.out) hb); have n6_ := Aside0.mk (Kd.V_lower (Kd.V_mono (ok' := fun k_ => some k_ ≠ (.slice Ao21 t167.length co21 : Value).ownBlock ∧ some k_ ≠ (.slice Ao23 y177.length co23 : Value).ownBlock ∧ some k_ ≠ (v183 : Value).ownBlock ∧ some k_ ≠ (v185 : Value).ownBlock ∧ some k_ ≠ (.slice Ao26 t187.length co26 : Value).ownBlock ∧ some k_ ≠ (v193 : Value).ownBlock) ho29 (fun k_ hk_ => ⟨(Kd.fresh' (Kd.R_lt (by (with_reducible repeat (first | apply Kd.R_alloc | apply Kd.R_drewN | apply Kd.R_drew)); exact HO170.out)) k_ hk_.2.1), (Kd.fresh' (Kd.R_lt (by (with_reducible repeat (first | apply Kd.R_alloc | apply Kd.R_drewN | apply Kd.R_drew)); exact HO179.out)) k_ hk_.2.1), (Kd.fresh' (Kd.R_lt (by (with_reducible repeat (first | apply Kd.R_alloc | apply Kd.R_drewN | apply Kd.R_drew)); exact HO184.out)) k_ hk_.2.1), (Kd.fresh' (Kd.R_lt (by (with_reducible repeat (first | apply Kd.R_alloc | apply Kd.R_drewN | apply Kd.R_drew)); exact HO186.out)) k_ hk_.2.1), (Kd.fresh' (Kd.R_lt (by (with_reducible repeat (first | apply Kd.R_alloc | apply Kd.R_drewN | apply Kd.R_drew)); exact HO189.out)) k_ hk_.2.1), (Kd.fresh' (Kd.R_lt (by (with_reducible repeat (first | apply Kd.R_alloc | apply Kd.R_drewN | apply Kd.R_drew)); exact HO194.out)) k_ hk_.2.1)⟩)) (below_size (by repeat (first | (with_reducible first | exact HB.out | apply below_alloc | apply pw_below_drewN | apply below_drew1) | exact HB.out)))); have n7_ := Aside0.mk (below_step (by repeat (first | (with_reducible first | exact HB.out | apply below_alloc | apply pw_below_drewN | apply below_drew1) | exact HB.out)) hb); clear HO170; clear HO179; clear HO184; clear HO186; clear HO189; clear HO194; clear HB; have HO170 := n0_; have HO179 := n1_; have HO184 := n2_; have HO186 := n3_; have HO189 := n4_; have HO194 := n5_; have HO197 := n6_; have HB := n7_; clear n0_ n1_ n2_ n3_ n4_ n5_ n6_ n7_; clear hb ho29; obtain ⟨Ao30, co30, eo30⟩ := Kd.V_slice HO197.out; subst eo30) | ((with_reducible refine gate_callee (f := 12) rfl ?_); refine goesL_ (some 31) rfl rfl Try.func12 (by kernel_rfl) rfl #[.slice Ao30 y195.length co30] rfl (by (try simp only [List.map_toArray, List.map_cons, List.map_nil]); first | done | rfl | (simp only [List.length_drop, List.length_take]; rfl)) ?_; (with_reducible refine (code_Sum.calls k _ _ y195 t198 _ ?side1 ?side2 A7.out).mono ?_); (case side1 => repeat (first | exact (Kd.V_reads' HO197.out).2.2 | (with_reducible refine Kd.C_alloc ?_ _) | (with_reducible refine Kd.C_drewN ?_ _) | (with_reducible refine Kd.C_drew ?_))); (case side2 => exact (Kd.V_reads' HO197.out).2.1); rintro e w' ⟨rfl, ⟨nd, rfl⟩⟩; refine ⟨_, rfl, ?_⟩; have hcv31 := own_string (P := Try.prog) Try.underlying22 Try.underlying5 Try.underlying9 (Kd.own_of_R HO170.out); have hcv31d := fun (q_ : Nat) => own_string (P := Try.prog) Try.underlying22 Try.underlying5 Try.underlying9 (Kd.own_of_R (Kd.R_drewN HO170.out q_)); obtain ⟨Ao32, co32, eo32⟩ := Kd.R_slice HO184.out; subst eo32; have hcv33 := own_string (P := Try.prog) Try.underlying22 Try.underlying5 Try.underlying9 (Kd.own_of_R HO186.out); have hcv33d := fun (q_ : Nat) => own_string (P := Try.prog) Try.underlying22 Try.underlying5 Try.underlying9 (Kd.own_of_R (Kd.R_drewN HO186.out q_))) | (go_at_call 16; (with_reducible refine (code_Text.calls k (⟨#[97, 98]⟩ : ByteArray) t199 _ A16.out).mono ?_); rintro e w34 ⟨v200, rfl, ho0, hb⟩; have n0_ := Aside0.mk (Kd.R_elder' (by (with_reducible repeat (first | apply Kd.R_alloc | apply Kd.R_drewN | apply Kd.R_drew)); exact HO170.out) (Kd.R_base ho0) hb); have n1_ := Aside0.mk (Kd.R_elder' (by (with_reducible repeat (first | apply Kd.R_alloc | apply Kd.R_drewN | apply Kd.R_drew)); exact HO179.out) (Kd.R_base ho0) hb); have n2_ := Aside0.mk (Kd.R_elder' (by (with_reducible repeat (first | apply Kd.R_alloc | apply Kd.R_drewN | apply Kd.R_drew)); exact HO184.out) (Kd.R_base ho0) hb); have n3_ := Aside0.mk (Kd.R_elder' (by (with_reducible repeat (first | apply Kd.R_alloc | apply Kd.R_drewN | apply Kd.R_drew)); exact HO186.out) (Kd.R_base ho0) hb); have n4_ := Aside0.mk (Kd.R_elder' (by (with_reducible repeat (first | apply Kd.R_alloc | apply Kd.R_drewN | apply Kd.R_drew)); exact HO189.out) (Kd.R_base ho0) hb); have n5_ := Aside0.mk (Kd.R_elder' (by (with_reducible repeat (first | apply Kd.R_alloc | apply Kd.R_drewN | apply Kd.R_drew)); exact HO194.out) (Kd.R_base ho0) hb); have n6_ := Aside0.mk (Kd.V_elder' (by (with_reducible repeat (first | apply Kd.V_alloc | apply Kd.V_drewN | apply Kd.V_drew)); exact HO197.out) (Kd.R_base ho0) hb); have n7_ := Aside0.mk (Kd.R_lower (Kd.R_new' (Kd.R_new' (Kd.R_new' (Kd.R_new' (Kd.R_new' (Kd.R_new' ho0 (Kd.R_lt (by (with_reducible repeat (first | apply Kd.R_alloc | apply Kd.R_drewN | apply Kd.R_drew)); exact HO170.out))) (Kd.R_lt (by (with_reducible repeat (first | apply Kd.R_alloc | apply Kd.R_drewN | apply Kd.R_drew)); exact HO179.out))) (Kd.R_lt (by (with_reducible repeat (first | apply Kd.R_alloc | apply Kd.R_drewN | apply Kd.R_drew)); exact HO184.out))) (Kd.R_lt (by (with_reducible repeat (first | apply Kd.R_alloc | apply Kd.R_drewN | apply Kd.R_drew)); exact HO186.out))) (Kd.R_lt (by (with_reducible repeat (first | apply Kd.R_alloc | apply Kd.R_drewN | apply Kd.R_drew)); exact HO189.out))) (Kd.R_lt (by (with_reducible repeat (first | apply Kd.R_alloc | apply Kd.R_drewN | apply Kd.R_drew)); exact HO194.out))) (below_size (by repeat (first | (with_reducible first | exact HB.out | apply below_alloc | apply pw_below_drewN | apply below_drew1) | exact HB.out)))); have n8_ := Aside0.mk (below_step (by repeat (first | (with_reducible first | exact HB.out | apply below_alloc | apply pw_below_drewN | apply below_drew1) | exact HB.out)) hb); clear HO170; clear HO179; clear HO184; clear HO186; clear HO189; clear HO194; clear HO197; clear HB; have HO170 := n0_; have HO179 := n1_; have HO184 := n2_; have HO186 := n3_; have HO189 := n4_; have HO194 := n5_; have HO197 := n6_; have HO201 := n7_; have HB := n8_; clear n0_ n1_ n2_ n3_ n4_ n5_ n6_ n7_ n8_; (try clear hb); (try clear hb2); (try clear hk); (try clear hi); (try clear ho0); have hcv35 := own_string (P := Try.prog) Try.underlying22 Try.underlying5 Try.underlying9 (Kd.own_of_R HO201.out); have hcv35d := fun (q_ : Nat) => own_string (P := Try.prog) Try.underlying22 Try.underlying5 Try.underlying9 (Kd.own_of_R (Kd.R_drewN HO201.out q_))))
                      go_ret
                      exact ⟨by first | rfl | (simp [errW_none, errW_some] <;> rfl) | (simp [*, errW_none, errW_some] <;> rfl), by repeat (first | (with_reducible first | exact HB.out | apply below_alloc | apply pw_below_drewN | apply below_drew1) | exact HB.out)⟩
                    · rw [if_neg c15] at H
                      have c15b0 : (t192 == 0) = false := beq_eq_false_iff_ne.mpr c15
                      have c15b1 : (t192 != 0) = true := bne_iff_ne.mpr c15
                      obtain rfl := Option.some.inj H
                      exact absurd HR_.out (by decide)
                  · rw [if_neg c14] at H
                    have c14b0 : (t190 == (-5)) = false := beq_eq_false_iff_ne.mpr c14
                    have c14b1 : (t190 != (-5)) = true := bne_iff_ne.mpr c14
                    obtain rfl := Option.some.inj H
                    exact absurd HR_.out (by decide)
                · rw [if_neg c13] at H
                  have c13b0 : (t182 == 0) = false := beq_eq_false_iff_ne.mpr c13
                  have c13b1 : (t182 != 0) = true := bne_iff_ne.mpr c13
                  obtain rfl := Option.some.inj H
                  exact absurd HR_.out (by decide)
              · rw [if_neg c12] at H
                have c12b0 : ((strOfNums t181).toList == ([7] : List UInt8)) = false := beq_eq_false_iff_ne.mpr c12
                have c12b1 : ((strOfNums t181).toList != ([7] : List UInt8)) = true := bne_iff_ne.mpr c12
                obtain rfl := Option.some.inj H
                exact absurd HR_.out (by decide)
            · rw [if_neg c11] at H
              have c11b0 : ((t180.length : Int) == 0) = false := beq_eq_false_iff_ne.mpr c11
              have c11b1 : ((t180.length : Int) != 0) = true := bne_iff_ne.mpr c11
              have c11b2 : ¬ (t180 = []) := fun h_ => c11 (by rw [h_]; rfl)
              obtain rfl := Option.some.inj H
              exact absurd HR_.out (by decide)
          · rw [if_neg c10] at H
            have c10b0 : (t168 == 0) = false := beq_eq_false_iff_ne.mpr c10
            have c10b1 : (t168 != 0) = true := bne_iff_ne.mpr c10
            obtain rfl := Option.some.inj H
            exact absurd HR_.out (by decide)
        · rw [if_neg c9] at H
          have c9b0 : ((strOfNums t167).toList == ([0, 0, 0, 0, 33, 68, 223, 28] : List UInt8)) = false := beq_eq_false_iff_ne.mpr c9
          have c9b1 : ((strOfNums t167).toList != ([0, 0, 0, 0, 33, 68, 223, 28] : List UInt8)) = true := bne_iff_ne.mpr c9
          obtain rfl := Option.some.inj H
          exact absurd HR_.out (by decide)
      · rw [if_neg c8] at H
        have c8b0 : (t198 == 3421780262) = false := beq_eq_false_iff_ne.mpr c8
        have c8b1 : (t198 != 3421780262) = true := bne_iff_ne.mpr c8
        obtain rfl := Option.some.inj H
        exact absurd HR_.out (by decide)
    · rw [if_neg c3] at H
      exact absurd H (by simp)
  · rw [if_neg c2] at H
    exact absurd H (by simp)

/-! ### haywainref02_Value: function 30 -/
def haywainref02_Value.l0 : Nat → List Int → Int → Int → Option (Int)
  | 0, _, _, _ => none
  | k + 1, x0, x3, x4 => if x4 < (x0.length : Int) then (if 0 ≤ x4 then (haywainref02_Value.l0 k x0 (IntKind.u64.wrap ((IntKind.u64.wrap (x3 * 256)) + (IntKind.u64.wrap (rd x0 x4)))) (wrap64 (x4 + 1))) else (none)) else (some x3)
def haywainref02_Value.f (k : Nat) (l0 : List Int) : Option (Int) := haywainref02_Value.l0 k l0 0 0
theorem haywainref02_Value.mono_l : ∀ k, (∀ y0 y1 y2, LeO (haywainref02_Value.l0 k y0 y1 y2) (haywainref02_Value.l0 (k + 1) y0 y1 y2))
  | 0 => fun _ _ _ r h => by simp [haywainref02_Value.l0] at h
  | k + 1 => by
    have ih0 := haywainref02_Value.mono_l k
    · intro y0 y1 y2
      unfold haywainref02_Value.l0
      repeat' first
      | (with_reducible exact ih0 _ _ _)
      | (with_reducible exact LeO.refl _)
      | (with_reducible exact LeO.none _)
      | (with_reducible refine LeO.ite ?_ ?_)
      | (with_reducible refine LeO.bind ?_ (fun _ => ?_))
      | exact ih0 _ _ _
      | exact LeO.none _
      | refine LeO.ite ?_ ?_
      | refine LeO.bind ?_ (fun _ => ?_)
theorem haywainref02_Value.mono : ∀ a0 k, LeO (haywainref02_Value.f k a0) (haywainref02_Value.f (k + 1) a0) := by
  intro a0 k
  have ih0 := haywainref02_Value.mono_l k
  unfold haywainref02_Value.f
  repeat' first
      | (with_reducible exact ih0 _ _ _)
      | (with_reducible exact LeO.refl _)
      | (with_reducible exact LeO.none _)
      | (with_reducible refine LeO.ite ?_ ?_)
      | (with_reducible refine LeO.bind ?_ (fun _ => ?_))
      | exact ih0 _ _ _
      | exact LeO.none _
      | refine LeO.ite ?_ ?_
      | refine LeO.bind ?_ (fun _ => ?_)
set_option maxHeartbeats 8000000 in
set_option maxRecDepth 100000 in
theorem haywainref02_Value.calls (k : Nat) (A0 : Option Addr) (c0 : Nat) (l0 : List Int) (r : Int) (w : World) (hr0 : Kd.C (Kd.int .u8) w A0 l0.length l0) (hc0 : l0.length ≤ c0) (h : haywainref02_Value.f k l0 = some r) :
    Calls Try.prog 30 #[.slice A0 l0.length c0] w fun e w' => e = .returned (.int .u64 r) ∧ Drawn0 w w' := by
  have HR0 := Aside0.mk hr0
  have HC0 := Aside0.mk hc0
  clear hr0 hc0
  have H : (haywainref02_Value.l0 k l0 0 0) = some r := h
  clear h
  have H' := Aside0.mk H
  clear H
  go_enter Try.func30, Try.ntmps30
  go_wp2
  go_loopg [3, 4] k (fun kq v3 v4 w' => ∃ (x3_1 : Int) (x4_1 : Int), v3 = .int .u64 x3_1 ∧ v4 = .int .i64 x4_1 ∧ Aside0 (haywainref02_Value.l0 kq l0 x3_1 x4_1 = some r) ∧ Aside0 (kq ≤ k) ∧ Drawn0 w w')
  case atStart => exact ⟨(0), (0), (by first | rfl | (simp; done) | (simp [*]; done)), (by first | rfl | (simp; done) | (simp [*]; done)), H', ⟨Nat.le_refl _⟩, by repeat (first | exact Drawn0.refl _ | apply Drawn0.step)⟩
  case round =>
    clear H'
    obtain ⟨x3_1, x4_1, rfl, rfl, HA, HK1, ⟨m1, rfl⟩⟩ := hrel
    cases gk with
    | zero => exact absurd HA.out (by simp [haywainref02_Value.l0])
    | succ k1 =>
      have H := HA.out
      clear HA
      simp only [haywainref02_Value.l0] at H
      by_cases c2 : x4_1 < (l0.length : Int)
      · rw [if_pos c2] at H
        have c2b0 : decide (x4_1 < (l0.length : Int)) = true := decide_eq_true c2
        clear c2
        by_cases c3 : 0 ≤ x4_1
        · rw [if_pos c3] at H
          have c3b0 : decide (0 ≤ x4_1) = true := decide_eq_true c3
          clear c3
          have H' := Aside0.mk H
          clear H
          have p202 : 0 ≤ (x4_1 : Int) := of_decide_eq_true (by first | (with_reducible assumption) | assumption)
          have q202 : x4_1 < (l0.length : Int) := of_decide_eq_true (by first | (with_reducible assumption) | assumption)
          obtain ⟨ad202, e202, hx202_0⟩ := Kd.at_int HR0.out x4_1 p202 q202
          cases e202
          replace p202 := eq_true p202
          replace q202 := eq_true q202
          go_wp2
          go_roundg k1
          case measure => have := HK1.out; omega
          case rel => exact ⟨(IntKind.u64.wrap ((IntKind.u64.wrap (x3_1 * 256)) + (IntKind.u64.wrap (rd l0 x4_1)))), (wrap64 (x4_1 + 1)), (by first | rfl | (simp; done) | (simp [*]; done)), (by first | rfl | (simp; done) | (simp [*]; done)), H', ⟨by have := HK1.out; omega⟩, by repeat (first | exact Drawn0.refl _ | apply Drawn0.step)⟩
        · rw [if_neg c3] at H
          exact absurd H (by simp)
      · rw [if_neg c2] at H
        have c2b0 : decide (x4_1 < (l0.length : Int)) = false := decide_eq_false c2
        clear c2
        obtain rfl := Option.some.inj H
        go_wp2
        go_ret
        exact ⟨by first | rfl | (simp; done) | (simp [*]; done), by repeat (first | exact Drawn0.refl _ | apply Drawn0.step)⟩

/-! ### haywainref02_TakeNum: function 23 -/
def haywainref02_TakeNum.f (k : Nat) (l0 : List Int) : Option (Int × Bool) := if (l0.length : Int) < 8 then (some (0, false)) else (if 8 ≤ (l0.length : Int) then ((haywainref02_Value.f k (l0.take 8)).bind fun t204 => (some (wrap64 (t204), true))) else (none))
theorem haywainref02_TakeNum.mono : ∀ a0 k, LeO (haywainref02_TakeNum.f k a0) (haywainref02_TakeNum.f (k + 1) a0) := by
  intro a0 k
  unfold haywainref02_TakeNum.f
  repeat' first
      | (with_reducible exact haywainref02_Value.mono _ _)
      | (with_reducible exact LeO.refl _)
      | (with_reducible exact LeO.none _)
      | (with_reducible refine LeO.ite ?_ ?_)
      | (with_reducible refine LeO.bind ?_ (fun _ => ?_))
      | exact haywainref02_Value.mono _ _
      | exact LeO.none _
      | refine LeO.ite ?_ ?_
      | refine LeO.bind ?_ (fun _ => ?_)
set_option maxHeartbeats 8000000 in
set_option maxRecDepth 100000 in
theorem haywainref02_TakeNum.calls (k : Nat) (A0 : Option Addr) (c0 : Nat) (l0 : List Int) (r1 : Int) (r2 : Bool) (w : World) (hr0 : Kd.C (Kd.int .u8) w A0 l0.length l0) (hc0 : l0.length ≤ c0) (h : haywainref02_TakeNum.f k l0 = some (r1, r2)) :
    Calls Try.prog 23 #[.slice A0 l0.length c0] w fun e w' => e = .returned (.tuple #[.int .i64 r1, .bool r2]) ∧ Drawn0 w w' := by
  have HR0 := Aside0.mk hr0
  have HC0 := Aside0.mk hc0
  clear hr0 hc0
  have H : (if (l0.length : Int) < 8 then (some (0, false)) else (if 8 ≤ (l0.length : Int) then ((haywainref02_Value.f k (l0.take 8)).bind fun t204 => (some (wrap64 (t204), true))) else (none))) = some (r1, r2) := h
  clear h
  by_cases c2 : (l0.length : Int) < 8
  · rw [if_pos c2] at H
    have c2b0 : decide ((l0.length : Int) < 8) = true := decide_eq_true c2
    have c2b1 : decide (l0.length < 8) = true := decide_eq_true (by omega)
    clear c2
    simp only [Option.some.injEq, Prod.mk.injEq] at H
    obtain ⟨rfl, rfl⟩ := H
    go_enter Try.func23, Try.ntmps23
    go_wp2
    go_ret2
    exact ⟨by first | rfl | (simp; done) | (simp [*]; done), by repeat (first | exact Drawn0.refl _ | apply Drawn0.step)⟩
  · rw [if_neg c2] at H
    have c2b0 : decide ((l0.length : Int) < 8) = false := decide_eq_false c2
    have c2b1 : decide (l0.length < 8) = false := decide_eq_false (by omega)
    clear c2
    by_cases c3 : 8 ≤ (l0.length : Int)
    · rw [if_pos c3] at H
      have c3b0 := eq_true c3
      have c3b1 : decide (8 ≤ (l0.length : Int)) = true := decide_eq_true c3
      clear c3
      replace H := Option.bind_eq_some_iff.mp H
      obtain ⟨t204, A40, H⟩ := H
      replace H : (some (wrap64 (t204), true)) = some (r1, r2) := H
      have A4 := Aside0.mk A40
      clear A40
      simp only [Option.some.injEq, Prod.mk.injEq] at H
      obtain ⟨rfl, rfl⟩ := H
      obtain ⟨i05, hi05, _, hsz5, _⟩ := info_parts info5
      obtain ⟨hcut5, hA5, hC5⟩ := print_take_of (P := Try.prog) (Value.int .u8) 0 22 5 .i64 Try.underlying22 hi05 hsz5 A0 c0 l0 8 (by omega) (of_decide_eq_true (by first | (with_reducible assumption) | assumption)) HC0.out
      have HR203 := Aside0.mk (Kd.C_of_reads (h1 := fun _ => rfl) (hA5 _ (Kd.reads_of_C HR0.out)))
      have HC203 := Aside0.mk hC5
      clear hA5 hC5 hi05 hsz5
      go_enter Try.func23, Try.ntmps23
      go_wp2_with (first | ((with_reducible refine gate_callee (f := 30) rfl ?_); refine goesL_ (some 9) rfl rfl Try.func30 (by kernel_rfl) rfl #[.slice A0 (l0.take 8).length c0] rfl (by (try simp only [List.map_toArray, List.map_cons, List.map_nil]); first | done | (rw [show (l0.take 8).length = 8 from (by rw [List.length_take]; have h_ : (8 : Int) ≤ (l0.length : Int) := of_decide_eq_true (by first | (with_reducible assumption) | assumption); omega)] <;> rfl) | rfl | (simp only [List.length_drop, List.length_take]; rfl)) ?_; (with_reducible refine (haywainref02_Value.calls k _ _ (l0.take 8) t204 _ ?side1 ?side2 A4.out).mono ?_); (case side1 => repeat (first | exact HR203.out | (with_reducible refine Kd.C_alloc ?_ _) | (with_reducible refine Kd.C_drewN ?_ _) | (with_reducible refine Kd.C_drew ?_))); (case side2 => exact HC203.out); rintro e w' ⟨rfl, ⟨nd, rfl⟩⟩; refine ⟨_, rfl, ?_⟩))
      go_ret2
      exact ⟨by first | rfl | (simp; done) | (simp [*]; done), by repeat (first | exact Drawn0.refl _ | apply Drawn0.step)⟩
    · rw [if_neg c3] at H
      exact absurd H (by simp)

/-! ### code_TakeText: function 24 -/
def code_TakeText.f (k : Nat) (l0 : List Int) : Option (ByteArray × List Int × Int) := (code_TakeNum.f k l0).bind fun bt205 => (if bt205.2.2 = 0 then (if bt205.1 < 0 then (some ((⟨#[]⟩ : ByteArray), ([] : List Int), 2)) else (if bt205.1 > (bt205.2.1.length : Int) then (some ((⟨#[]⟩ : ByteArray), ([] : List Int), 2)) else (if 0 ≤ bt205.1 then (if bt205.1 ≤ (bt205.2.1.length : Int) then (some (strOfNums (bt205.2.1.take (bt205.1 : Int).toNat), (bt205.2.1.drop (bt205.1 : Int).toNat), 0)) else (none)) else (none)))) else (some ((⟨#[]⟩ : ByteArray), ([] : List Int), 2)))
theorem code_TakeText.mono : ∀ a0 k, LeO (code_TakeText.f k a0) (code_TakeText.f (k + 1) a0) := by
  intro a0 k
  unfold code_TakeText.f
  repeat' first
      | (with_reducible exact code_TakeNum.mono _ _)
      | (with_reducible exact LeO.refl _)
      | (with_reducible exact LeO.none _)
      | (with_reducible refine LeO.ite ?_ ?_)
      | (with_reducible refine LeO.bind ?_ (fun _ => ?_))
      | exact code_TakeNum.mono _ _
      | exact LeO.none _
      | refine LeO.ite ?_ ?_
      | refine LeO.bind ?_ (fun _ => ?_)
set_option maxHeartbeats 8000000 in
set_option maxRecDepth 100000 in
theorem code_TakeText.calls (k : Nat) (A0 : Option Addr) (c0 : Nat) (l0 : List Int) (r1 : ByteArray) (r2 : List Int) (r3 : Int) (w : World) (hr0 : Kd.C (Kd.int .u8) w A0 l0.length l0) (hc0 : l0.length ≤ c0) (h : code_TakeText.f k l0 = some (r1, r2, r3)) :
    Calls Try.prog 24 #[.slice A0 l0.length c0] w fun e w' => ∃ v1_ : Value, e = .returned (.tuple #[.string r1, v1_, .int .i64 r3]) ∧ Kd.Q (Kd.int .u8) 5 w' w.heap.size (fun _ => True) v1_ r2 ∧ Below w.heap.size w w' := by
  have HR0 := Aside0.mk hr0
  have HC0 := Aside0.mk hc0
  clear hr0 hc0
  have HB := Aside0.mk (Below.refl w.heap.size w)
  have H : ((code_TakeNum.f k l0).bind fun bt205 => (if bt205.2.2 = 0 then (if bt205.1 < 0 then (some ((⟨#[]⟩ : ByteArray), ([] : List Int), 2)) else (if bt205.1 > (bt205.2.1.length : Int) then (some ((⟨#[]⟩ : ByteArray), ([] : List Int), 2)) else (if 0 ≤ bt205.1 then (if bt205.1 ≤ (bt205.2.1.length : Int) then (some (strOfNums (bt205.2.1.take (bt205.1 : Int).toNat), (bt205.2.1.drop (bt205.1 : Int).toNat), 0)) else (none)) else (none)))) else (some ((⟨#[]⟩ : ByteArray), ([] : List Int), 2)))) = some (r1, r2, r3) := h
  clear h
  replace H := Option.bind_eq_some_iff.mp H
  obtain ⟨⟨t205, t206, t207⟩, A20, H⟩ := H
  replace H : (if t207 = 0 then (if t205 < 0 then (some ((⟨#[]⟩ : ByteArray), ([] : List Int), 2)) else (if t205 > (t206.length : Int) then (some ((⟨#[]⟩ : ByteArray), ([] : List Int), 2)) else (if 0 ≤ t205 then (if t205 ≤ (t206.length : Int) then (some (strOfNums (t206.take (t205 : Int).toNat), (t206.drop (t205 : Int).toNat), 0)) else (none)) else (none)))) else (some ((⟨#[]⟩ : ByteArray), ([] : List Int), 2))) = some (r1, r2, r3) := H
  have A2 := Aside0.mk A20
  clear A20
  by_cases c3 : t207 = 0
  · rw [if_pos c3] at H
    have c3b0 : (t207 == 0) = true := beq_iff_eq.mpr c3
    have c3b1 : (t207 != 0) = false := bne_eq_false_iff_eq.mpr c3
    clear c3
    by_cases c4 : t205 < 0
    · rw [if_pos c4] at H
      have c4b0 : decide (t205 < 0) = true := decide_eq_true c4
      clear c4
      simp only [Option.some.injEq, Prod.mk.injEq] at H
      obtain ⟨rfl, rfl, rfl⟩ := H
      go_enter Try.func24, Try.ntmps24
      go_wp2_with (first | (go_at_call 22; (with_reducible refine (code_TakeNum.calls k _ _ l0 t205 t206 t207 _ ?side1 ?side2 A2.out).mono ?_); (case side1 => repeat (first | exact HR0.out | (with_reducible refine Kd.C_alloc ?_ _) | (with_reducible refine Kd.C_drewN ?_ _) | (with_reducible refine Kd.C_drew ?_))); (case side2 => exact HC0.out); rintro e w5 ⟨v208, rfl, ho0, hb⟩; have n0_ := Aside0.mk (Kd.R_lower ho0 (below_size (by repeat (first | (with_reducible first | exact HB.out | apply below_alloc | apply pw_below_drewN | apply below_drew1) | exact HB.out)))); have n1_ := Aside0.mk (below_step (by repeat (first | (with_reducible first | exact HB.out | apply below_alloc | apply pw_below_drewN | apply below_drew1) | exact HB.out)) hb); clear HB; have HO209 := n0_; have HB := n1_; clear n0_ n1_; (try clear hb); (try clear hb2); (try clear hk); (try clear hi); (try clear ho0)))
      repeat (go_quiet (first | (go_at_call 22; (with_reducible refine (code_TakeNum.calls k _ _ l0 t205 t206 t207 _ ?side1 ?side2 A2.out).mono ?_); (case side1 => repeat (first | exact HR0.out | (with_reducible refine Kd.C_alloc ?_ _) | (with_reducible refine Kd.C_drewN ?_ _) | (with_reducible refine Kd.C_drew ?_))); (case side2 => exact HC0.out); rintro e w5 ⟨v208, rfl, ho0, hb⟩; have n0_ := Aside0.mk (Kd.R_lower ho0 (below_size (by repeat (first | (with_reducible first | exact HB.out | apply below_alloc | apply pw_below_drewN | apply below_drew1) | exact HB.out)))); have n1_ := Aside0.mk (below_step (by repeat (first | (with_reducible first | exact HB.out | apply below_alloc | apply pw_below_drewN | apply below_drew1) | exact HB.out)) hb); clear HB; have HO209 := n0_; have HB := n1_; clear n0_ n1_; (try clear hb); (try clear hb2); (try clear hk); (try clear hi); (try clear ho0))); try go_wp2_with (first | (go_at_call 22; (with_reducible refine (code_TakeNum.calls k _ _ l0 t205 t206 t207 _ ?side1 ?side2 A2.out).mono ?_); (case side1 => repeat (first | exact HR0.out | (with_reducible refine Kd.C_alloc ?_ _) | (with_reducible refine Kd.C_drewN ?_ _) | (with_reducible refine Kd.C_drew ?_))); (case side2 => exact HC0.out); rintro e w5 ⟨v208, rfl, ho0, hb⟩; have n0_ := Aside0.mk (Kd.R_lower ho0 (below_size (by repeat (first | (with_reducible first | exact HB.out | apply below_alloc | apply pw_below_drewN | apply below_drew1) | exact HB.out)))); have n1_ := Aside0.mk (below_step (by repeat (first | (with_reducible first | exact HB.out | apply below_alloc | apply pw_below_drewN | apply below_drew1) | exact HB.out)) hb); clear HB; have HO209 := n0_; have HB := n1_; clear n0_ n1_; (try clear hb); (try clear hb2); (try clear hk); (try clear hi); (try clear ho0))))
      go_ret3
      exact ⟨_, by first | rfl | (simp [errW_none, errW_some] <;> rfl) | (simp [*, errW_none, errW_some] <;> rfl), Kd.Q_of_R (by first | exact Kd.R_nil _ _ _ _ _ | exact Kd.N_nil _ _ _ _ _ | exact Kd.V_nil _ _ _ _ _ | exact Kd.Q_nil _ _ _ _ _ | exact Kd.S_nil _ _ _ _ _), by repeat (first | (with_reducible first | exact HB.out | apply below_alloc | apply pw_below_drewN | apply below_drew1) | exact HB.out)⟩
    · rw [if_neg c4] at H
      have c4b0 : decide (t205 < 0) = false := decide_eq_false c4
      clear c4
      by_cases c6 : t205 > (t206.length : Int)
      · rw [if_pos c6] at H
        have c6b0 : decide ((t206.length : Int) < t205) = true := decide_eq_true c6
        clear c6
        simp only [Option.some.injEq, Prod.mk.injEq] at H
        obtain ⟨rfl, rfl, rfl⟩ := H
        go_enter Try.func24, Try.ntmps24
        go_wp2_with (first | (go_at_call 22; (with_reducible refine (code_TakeNum.calls k _ _ l0 t205 t206 t207 _ ?side1 ?side2 A2.out).mono ?_); (case side1 => repeat (first | exact HR0.out | (with_reducible refine Kd.C_alloc ?_ _) | (with_reducible refine Kd.C_drewN ?_ _) | (with_reducible refine Kd.C_drew ?_))); (case side2 => exact HC0.out); rintro e w7 ⟨v208, rfl, ho0, hb⟩; have n0_ := Aside0.mk (Kd.R_lower ho0 (below_size (by repeat (first | (with_reducible first | exact HB.out | apply below_alloc | apply pw_below_drewN | apply below_drew1) | exact HB.out)))); have n1_ := Aside0.mk (below_step (by repeat (first | (with_reducible first | exact HB.out | apply below_alloc | apply pw_below_drewN | apply below_drew1) | exact HB.out)) hb); clear HB; have HO209 := n0_; have HB := n1_; clear n0_ n1_; (try clear hb); (try clear hb2); (try clear hk); (try clear hi); (try clear ho0); obtain ⟨Ao8, co8, eo8⟩ := Kd.R_slice HO209.out; subst eo8))
        repeat (go_quiet (first | (go_at_call 22; (with_reducible refine (code_TakeNum.calls k _ _ l0 t205 t206 t207 _ ?side1 ?side2 A2.out).mono ?_); (case side1 => repeat (first | exact HR0.out | (with_reducible refine Kd.C_alloc ?_ _) | (with_reducible refine Kd.C_drewN ?_ _) | (with_reducible refine Kd.C_drew ?_))); (case side2 => exact HC0.out); rintro e w7 ⟨v208, rfl, ho0, hb⟩; have n0_ := Aside0.mk (Kd.R_lower ho0 (below_size (by repeat (first | (with_reducible first | exact HB.out | apply below_alloc | apply pw_below_drewN | apply below_drew1) | exact HB.out)))); have n1_ := Aside0.mk (below_step (by repeat (first | (with_reducible first | exact HB.out | apply below_alloc | apply pw_below_drewN | apply below_drew1) | exact HB.out)) hb); clear HB; have HO209 := n0_; have HB := n1_; clear n0_ n1_; (try clear hb); (try clear hb2); (try clear hk); (try clear hi); (try clear ho0); obtain ⟨Ao8, co8, eo8⟩ := Kd.R_slice HO209.out; subst eo8)); try go_wp2_with (first | (go_at_call 22; (with_reducible refine (code_TakeNum.calls k _ _ l0 t205 t206 t207 _ ?side1 ?side2 A2.out).mono ?_); (case side1 => repeat (first | exact HR0.out | (with_reducible refine Kd.C_alloc ?_ _) | (with_reducible refine Kd.C_drewN ?_ _) | (with_reducible refine Kd.C_drew ?_))); (case side2 => exact HC0.out); rintro e w7 ⟨v208, rfl, ho0, hb⟩; have n0_ := Aside0.mk (Kd.R_lower ho0 (below_size (by repeat (first | (with_reducible first | exact HB.out | apply below_alloc | apply pw_below_drewN | apply below_drew1) | exact HB.out)))); have n1_ := Aside0.mk (below_step (by repeat (first | (with_reducible first | exact HB.out | apply below_alloc | apply pw_below_drewN | apply below_drew1) | exact HB.out)) hb); clear HB; have HO209 := n0_; have HB := n1_; clear n0_ n1_; (try clear hb); (try clear hb2); (try clear hk); (try clear hi); (try clear ho0); obtain ⟨Ao8, co8, eo8⟩ := Kd.R_slice HO209.out; subst eo8)))
        go_ret3
        exact ⟨_, by first | rfl | (simp [errW_none, errW_some] <;> rfl) | (simp [*, errW_none, errW_some] <;> rfl), Kd.Q_of_R (by first | exact Kd.R_nil _ _ _ _ _ | exact Kd.N_nil _ _ _ _ _ | exact Kd.V_nil _ _ _ _ _ | exact Kd.Q_nil _ _ _ _ _ | exact Kd.S_nil _ _ _ _ _), by repeat (first | (with_reducible first | exact HB.out | apply below_alloc | apply pw_below_drewN | apply below_drew1) | exact HB.out)⟩
      · rw [if_neg c6] at H
        have c6b0 : decide ((t206.length : Int) < t205) = false := decide_eq_false c6
        clear c6
        by_cases c9 : 0 ≤ t205
        · rw [if_pos c9] at H
          have c9b0 := eq_true c9
          have c9b1 : decide (0 ≤ t205) = true := decide_eq_true c9
          clear c9
          by_cases c10 : t205 ≤ (t206.length : Int)
          · rw [if_pos c10] at H
            have c10b0 := eq_true c10
            have c10b1 : decide (t205 ≤ (t206.length : Int)) = true := decide_eq_true c10
            clear c10
            obtain ⟨y210, hy210⟩ : ∃ y_ : List Int, y_ = (t206.take (t205 : Int).toNat) := ⟨_, rfl⟩
            replace H : (some (strOfNums y210, (t206.drop (t205 : Int).toNat), 0)) = some (r1, r2, r3) := by first | (rw [hy210]; with_reducible exact H) | (have H2_ := (Option.bind_some _ _).symm.trans H; rw [hy210]; with_reducible exact H2_) | (have H2_ := (Option.bind_some _ _).symm.trans H; with_reducible exact H2_) | with_reducible exact H | (rw [hy210]; exact H) | exact H
            have Ny210 := Aside0.mk hy210
            clear hy210
            have c11b0 := eq_true (of_decide_eq_true (by first | (with_reducible assumption) | assumption) : t205 ≤ (t206.length : Int))
            obtain ⟨y214, hy214⟩ : ∃ y_ : List Int, y_ = (t206.drop (t205 : Int).toNat) := ⟨_, rfl⟩
            replace H : (some (strOfNums y210, y214, 0)) = some (r1, r2, r3) := by first | (rw [hy214]; with_reducible exact H) | (have H2_ := (Option.bind_some _ _).symm.trans H; rw [hy214]; with_reducible exact H2_) | (have H2_ := (Option.bind_some _ _).symm.trans H; with_reducible exact H2_) | with_reducible exact H | (rw [hy214]; exact H) | exact H
            have Ny214 := Aside0.mk hy214
            clear hy214
            simp only [Option.some.injEq, Prod.mk.injEq] at H
            obtain ⟨rfl, rfl, rfl⟩ := H
            go_enter Try.func24, Try.ntmps24
            go_wp2_with (first | (go_at_call 22; (with_reducible refine (code_TakeNum.calls k _ _ l0 t205 t206 t207 _ ?side1 ?side2 A2.out).mono ?_); (case side1 => repeat (first | exact HR0.out | (with_reducible refine Kd.C_alloc ?_ _) | (with_reducible refine Kd.C_drewN ?_ _) | (with_reducible refine Kd.C_drew ?_))); (case side2 => exact HC0.out); rintro e w12 ⟨v208, rfl, ho0, hb⟩; have n0_ := Aside0.mk (Kd.R_lower ho0 (below_size (by repeat (first | (with_reducible first | exact HB.out | apply below_alloc | apply pw_below_drewN | apply below_drew1) | exact HB.out)))); have n1_ := Aside0.mk (below_step (by repeat (first | (with_reducible first | exact HB.out | apply below_alloc | apply pw_below_drewN | apply below_drew1) | exact HB.out)) hb); clear HB; have HO209 := n0_; have HB := n1_; clear n0_ n1_; (try clear hb); (try clear hb2); (try clear hk); (try clear hi); (try clear ho0); obtain ⟨Ao13, co13, eo13⟩ := Kd.R_slice HO209.out; subst eo13; have q14 : (t205 : Int) ≤ ((t206.length : Int) : Int) := of_decide_eq_true (by first | (with_reducible assumption) | assumption); obtain ⟨i014, hi014, _, hsz14, _⟩ := info_parts info5; have hroom14 : t206.length ≤ co13 := (Kd.R_reads' HO209.out).2.1; have hC14 : Kd.C (Kd.int .u8) _ Ao13 t206.length t206 := (Kd.R_reads' HO209.out).2.2; have hcut14 := cut_to (P := Try.prog) 22 5 .i64 Try.underlying22 hi014 Ao13 t206.length co13 t205 (of_decide_eq_true (by first | (with_reducible assumption) | assumption)) q14 hroom14; have hr14 := Kd.C_take (m := (t205 : Int).toNat) hC14 (by omega); have hy14 : y210.length = (t205 : Int).toNat := (by rw [Ny210.out, List.length_take]; omega); rw [← Ny210.out] at hr14; rw [← hy14] at hcut14; have HR213 := Aside0.mk hr14; have HC213 := Aside0.mk (show y210.length ≤ co13 from by omega); clear hr14 hC14 hroom14 hi014 hsz14; have KY14 := Aside0.mk hy14; clear hy14; have KL14 := Aside0.mk (show (t205 : Int).toNat ≤ t206.length from by omega); replace q14 := eq_true q14; have hcv15 := Kd.C_string (P := Try.prog) (A := Ao13) (c := co13) Try.underlying22 Try.underlying5 Try.underlying9 (by repeat (first | (with_reducible exact HR213.out) | (with_reducible refine Kd.C_alloc ?_ _) | (with_reducible refine Kd.C_drewN ?_ _) | (with_reducible refine Kd.C_drew ?_) | exact HR213.out)); have hcv15d := fun (q_ : Nat) => Kd.C_string (P := Try.prog) (A := Ao13) (c := co13) Try.underlying22 Try.underlying5 Try.underlying9 (Kd.C_drewN (by repeat (first | (with_reducible exact HR213.out) | (with_reducible refine Kd.C_alloc ?_ _) | (with_reducible refine Kd.C_drewN ?_ _) | (with_reducible refine Kd.C_drew ?_) | exact HR213.out)) q_); have q16 : (t205 : Int) ≤ ((t206.length : Int) : Int) := of_decide_eq_true (by first | (with_reducible assumption) | assumption); obtain ⟨i016, hi016, _, hsz16, _⟩ := info_parts info5; have hcut16 := cut_from (P := Try.prog) 22 5 .i64 Try.underlying22 hi016 1 hsz16 Ao13 t206.length co13 t205 (of_decide_eq_true (by first | (with_reducible assumption) | assumption)) q16; have hr16 := Kd.Q_drop (k := (t205 : Int).toNat) (Kd.Q_of_R HO209.out) (by omega); obtain ⟨A16, hA16⟩ : ∃ A1, A1 = (if co13 = (t205 : Int).toNat then Ao13 else (Ao13 : Option Addr).map (·.add ((t205 : Int).toNat * 1))) := ⟨_, rfl⟩; obtain ⟨c16, hc16⟩ : ∃ c1, c1 = co13 - (t205 : Int).toNat := ⟨_, rfl⟩; have hy16 : y214.length = t206.length - (t205 : Int).toNat := (by rw [Ny214.out, List.length_drop]); rw [← Ny214.out] at hr16; rw [← hy16, ← hA16, ← hc16] at hcut16; replace hr16 : Kd.Q (Kd.int .u8) 5 w12 w.heap.size (fun _ => True) (.slice A16 y214.length c16) y214 := (by rw [hA16, hc16, hy16]; exact hr16); have HE16 : Aside0 ((Value.slice A16 y214.length c16).ownBlock = (.slice Ao13 t206.length co13 : Value).ownBlock) := ⟨by rw [hA16]; split <;> (cases (Ao13 : Option Addr) <;> first | rfl | (simp only [Option.map, Value.ownBlock, Addr.add]; split <;> rfl))⟩; clear hy16 hi016 hsz16 HO209 hA16 hc16; have HO216 := Aside0.mk hr16; clear hr16; replace q16 := eq_true q16))
            repeat (go_quiet (first | (go_at_call 22; (with_reducible refine (code_TakeNum.calls k _ _ l0 t205 t206 t207 _ ?side1 ?side2 A2.out).mono ?_); (case side1 => repeat (first | exact HR0.out | (with_reducible refine Kd.C_alloc ?_ _) | (with_reducible refine Kd.C_drewN ?_ _) | (with_reducible refine Kd.C_drew ?_))); (case side2 => exact HC0.out); rintro e w12 ⟨v208, rfl, ho0, hb⟩; have n0_ := Aside0.mk (Kd.R_lower ho0 (below_size (by repeat (first | (with_reducible first | exact HB.out | apply below_alloc | apply pw_below_drewN | apply below_drew1) | exact HB.out)))); have n1_ := Aside0.mk (below_step (by repeat (first | (with_reducible first | exact HB.out | apply below_alloc | apply pw_below_drewN | apply below_drew1) | exact HB.out)) hb); clear HB; have HO209 := n0_; have HB := n1_; clear n0_ n1_; (try clear hb); (try clear hb2); (try clear hk); (try clear hi); (try clear ho0); obtain ⟨Ao13, co13, eo13⟩ := Kd.R_slice HO209.out; subst eo13; have q14 : (t205 : Int) ≤ ((t206.length : Int) : Int) := of_decide_eq_true (by first | (with_reducible assumption) | assumption); obtain ⟨i014, hi014, _, hsz14, _⟩ := info_parts info5; have hroom14 : t206.length ≤ co13 := (Kd.R_reads' HO209.out).2.1; have hC14 : Kd.C (Kd.int .u8) _ Ao13 t206.length t206 := (Kd.R_reads' HO209.out).2.2; have hcut14 := cut_to (P := Try.prog) 22 5 .i64 Try.underlying22 hi014 Ao13 t206.length co13 t205 (of_decide_eq_true (by first | (with_reducible assumption) | assumption)) q14 hroom14; have hr14 := Kd.C_take (m := (t205 : Int).toNat) hC14 (by omega); have hy14 : y210.length = (t205 : Int).toNat := (by rw [Ny210.out, List.length_take]; omega); rw [← Ny210.out] at hr14; rw [← hy14] at hcut14; have HR213 := Aside0.mk hr14; have HC213 := Aside0.mk (show y210.length ≤ co13 from by omega); clear hr14 hC14 hroom14 hi014 hsz14; have KY14 := Aside0.mk hy14; clear hy14; have KL14 := Aside0.mk (show (t205 : Int).toNat ≤ t206.length from by omega); replace q14 := eq_true q14; have hcv15 := Kd.C_string (P := Try.prog) (A := Ao13) (c := co13) Try.underlying22 Try.underlying5 Try.underlying9 (by repeat (first | (with_reducible exact HR213.out) | (with_reducible refine Kd.C_alloc ?_ _) | (with_reducible refine Kd.C_drewN ?_ _) | (with_reducible refine Kd.C_drew ?_) | exact HR213.out)); have hcv15d := fun (q_ : Nat) => Kd.C_string (P := Try.prog) (A := Ao13) (c := co13) Try.underlying22 Try.underlying5 Try.underlying9 (Kd.C_drewN (by repeat (first | (with_reducible exact HR213.out) | (with_reducible refine Kd.C_alloc ?_ _) | (with_reducible refine Kd.C_drewN ?_ _) | (with_reducible refine Kd.C_drew ?_) | exact HR213.out)) q_); have q16 : (t205 : Int) ≤ ((t206.length : Int) : Int) := of_decide_eq_true (by first | (with_reducible assumption) | assumption); obtain ⟨i016, hi016, _, hsz16, _⟩ := info_parts info5; have hcut16 := cut_from (P := Try.prog) 22 5 .i64 Try.underlying22 hi016 1 hsz16 Ao13 t206.length co13 t205 (of_decide_eq_true (by first | (with_reducible assumption) | assumption)) q16; have hr16 := Kd.Q_drop (k := (t205 : Int).toNat) (Kd.Q_of_R HO209.out) (by omega); obtain ⟨A16, hA16⟩ : ∃ A1, A1 = (if co13 = (t205 : Int).toNat then Ao13 else (Ao13 : Option Addr).map (·.add ((t205 : Int).toNat * 1))) := ⟨_, rfl⟩; obtain ⟨c16, hc16⟩ : ∃ c1, c1 = co13 - (t205 : Int).toNat := ⟨_, rfl⟩; have hy16 : y214.length = t206.length - (t205 : Int).toNat := (by rw [Ny214.out, List.length_drop]); rw [← Ny214.out] at hr16; rw [← hy16, ← hA16, ← hc16] at hcut16; replace hr16 : Kd.Q (Kd.int .u8) 5 w12 w.heap.size (fun _ => True) (.slice A16 y214.length c16) y214 := (by rw [hA16, hc16, hy16]; exact hr16); have HE16 : Aside0 ((Value.slice A16 y214.length c16).ownBlock = (.slice Ao13 t206.length co13 : Value).ownBlock) := ⟨by rw [hA16]; split <;> (cases (Ao13 : Option Addr) <;> first | rfl | (simp only [Option.map, Value.ownBlock, Addr.add]; split <;> rfl))⟩; clear hy16 hi016 hsz16 HO209 hA16 hc16; have HO216 := Aside0.mk hr16; clear hr16; replace q16 := eq_true q16)); try go_wp2_with (first | (go_at_call 22; (with_reducible refine (code_TakeNum.calls k _ _ l0 t205 t206 t207 _ ?side1 ?side2 A2.out).mono ?_); (case side1 => repeat (first | exact HR0.out | (with_reducible refine Kd.C_alloc ?_ _) | (with_reducible refine Kd.C_drewN ?_ _) | (with_reducible refine Kd.C_drew ?_))); (case side2 => exact HC0.out); rintro e w12 ⟨v208, rfl, ho0, hb⟩; have n0_ := Aside0.mk (Kd.R_lower ho0 (below_size (by repeat (first | (with_reducible first | exact HB.out | apply below_alloc | apply pw_below_drewN | apply below_drew1) | exact HB.out)))); have n1_ := Aside0.mk (below_step (by repeat (first | (with_reducible first | exact HB.out | apply below_alloc | apply pw_below_drewN | apply below_drew1) | exact HB.out)) hb); clear HB; have HO209 := n0_; have HB := n1_; clear n0_ n1_; (try clear hb); (try clear hb2); (try clear hk); (try clear hi); (try clear ho0); obtain ⟨Ao13, co13, eo13⟩ := Kd.R_slice HO209.out; subst eo13; have q14 : (t205 : Int) ≤ ((t206.length : Int) : Int) := of_decide_eq_true (by first | (with_reducible assumption) | assumption); obtain ⟨i014, hi014, _, hsz14, _⟩ := info_parts info5; have hroom14 : t206.length ≤ co13 := (Kd.R_reads' HO209.out).2.1; have hC14 : Kd.C (Kd.int .u8) _ Ao13 t206.length t206 := (Kd.R_reads' HO209.out).2.2; have hcut14 := cut_to (P := Try.prog) 22 5 .i64 Try.underlying22 hi014 Ao13 t206.length co13 t205 (of_decide_eq_true (by first | (with_reducible assumption) | assumption)) q14 hroom14; have hr14 := Kd.C_take (m := (t205 : Int).toNat) hC14 (by omega); have hy14 : y210.length = (t205 : Int).toNat := (by rw [Ny210.out, List.length_take]; omega); rw [← Ny210.out] at hr14; rw [← hy14] at hcut14; have HR213 := Aside0.mk hr14; have HC213 := Aside0.mk (show y210.length ≤ co13 from by omega); clear hr14 hC14 hroom14 hi014 hsz14; have KY14 := Aside0.mk hy14; clear hy14; have KL14 := Aside0.mk (show (t205 : Int).toNat ≤ t206.length from by omega); replace q14 := eq_true q14; have hcv15 := Kd.C_string (P := Try.prog) (A := Ao13) (c := co13) Try.underlying22 Try.underlying5 Try.underlying9 (by repeat (first | (with_reducible exact HR213.out) | (with_reducible refine Kd.C_alloc ?_ _) | (with_reducible refine Kd.C_drewN ?_ _) | (with_reducible refine Kd.C_drew ?_) | exact HR213.out)); have hcv15d := fun (q_ : Nat) => Kd.C_string (P := Try.prog) (A := Ao13) (c := co13) Try.underlying22 Try.underlying5 Try.underlying9 (Kd.C_drewN (by repeat (first | (with_reducible exact HR213.out) | (with_reducible refine Kd.C_alloc ?_ _) | (with_reducible refine Kd.C_drewN ?_ _) | (with_reducible refine Kd.C_drew ?_) | exact HR213.out)) q_); have q16 : (t205 : Int) ≤ ((t206.length : Int) : Int) := of_decide_eq_true (by first | (with_reducible assumption) | assumption); obtain ⟨i016, hi016, _, hsz16, _⟩ := info_parts info5; have hcut16 := cut_from (P := Try.prog) 22 5 .i64 Try.underlying22 hi016 1 hsz16 Ao13 t206.length co13 t205 (of_decide_eq_true (by first | (with_reducible assumption) | assumption)) q16; have hr16 := Kd.Q_drop (k := (t205 : Int).toNat) (Kd.Q_of_R HO209.out) (by omega); obtain ⟨A16, hA16⟩ : ∃ A1, A1 = (if co13 = (t205 : Int).toNat then Ao13 else (Ao13 : Option Addr).map (·.add ((t205 : Int).toNat * 1))) := ⟨_, rfl⟩; obtain ⟨c16, hc16⟩ : ∃ c1, c1 = co13 - (t205 : Int).toNat := ⟨_, rfl⟩; have hy16 : y214.length = t206.length - (t205 : Int).toNat := (by rw [Ny214.out, List.length_drop]); rw [← Ny214.out] at hr16; rw [← hy16, ← hA16, ← hc16] at hcut16; replace hr16 : Kd.Q (Kd.int .u8) 5 w12 w.heap.size (fun _ => True) (.slice A16 y214.length c16) y214 := (by rw [hA16, hc16, hy16]; exact hr16); have HE16 : Aside0 ((Value.slice A16 y214.length c16).ownBlock = (.slice Ao13 t206.length co13 : Value).ownBlock) := ⟨by rw [hA16]; split <;> (cases (Ao13 : Option Addr) <;> first | rfl | (simp only [Option.map, Value.ownBlock, Addr.add]; split <;> rfl))⟩; clear hy16 hi016 hsz16 HO209 hA16 hc16; have HO216 := Aside0.mk hr16; clear hr16; replace q16 := eq_true q16)))
            go_ret3
            exact ⟨_, by first | rfl | (simp [errW_none, errW_some] <;> rfl) | (simp [*, errW_none, errW_some] <;> rfl), by (with_reducible repeat (first | apply Kd.Q_alloc | apply Kd.Q_drewN | apply Kd.Q_drew)); exact HO216.out, by repeat (first | (with_reducible first | exact HB.out | apply below_alloc | apply pw_below_drewN | apply below_drew1) | exact HB.out)⟩
          · rw [if_neg c10] at H
            exact absurd H (by simp)
        · rw [if_neg c9] at H
          exact absurd H (by simp)
  · rw [if_neg c3] at H
    have c3b0 : (t207 == 0) = false := beq_eq_false_iff_ne.mpr c3
    have c3b1 : (t207 != 0) = true := bne_iff_ne.mpr c3
    simp only [Option.some.injEq, Prod.mk.injEq] at H
    obtain ⟨rfl, rfl, rfl⟩ := H
    go_enter Try.func24, Try.ntmps24
    go_wp2_with (first | (go_at_call 22; (with_reducible refine (code_TakeNum.calls k _ _ l0 t205 t206 t207 _ ?side1 ?side2 A2.out).mono ?_); (case side1 => repeat (first | exact HR0.out | (with_reducible refine Kd.C_alloc ?_ _) | (with_reducible refine Kd.C_drewN ?_ _) | (with_reducible refine Kd.C_drew ?_))); (case side2 => exact HC0.out); rintro e w17 ⟨v208, rfl, ho0, hb⟩; have n0_ := Aside0.mk (Kd.R_lower ho0 (below_size (by repeat (first | (with_reducible first | exact HB.out | apply below_alloc | apply pw_below_drewN | apply below_drew1) | exact HB.out)))); have n1_ := Aside0.mk (below_step (by repeat (first | (with_reducible first | exact HB.out | apply below_alloc | apply pw_below_drewN | apply below_drew1) | exact HB.out)) hb); clear HB; have HO209 := n0_; have HB := n1_; clear n0_ n1_; (try clear hb); (try clear hb2); (try clear hk); (try clear hi); (try clear ho0)))
    repeat (go_quiet (first | (go_at_call 22; (with_reducible refine (code_TakeNum.calls k _ _ l0 t205 t206 t207 _ ?side1 ?side2 A2.out).mono ?_); (case side1 => repeat (first | exact HR0.out | (with_reducible refine Kd.C_alloc ?_ _) | (with_reducible refine Kd.C_drewN ?_ _) | (with_reducible refine Kd.C_drew ?_))); (case side2 => exact HC0.out); rintro e w17 ⟨v208, rfl, ho0, hb⟩; have n0_ := Aside0.mk (Kd.R_lower ho0 (below_size (by repeat (first | (with_reducible first | exact HB.out | apply below_alloc | apply pw_below_drewN | apply below_drew1) | exact HB.out)))); have n1_ := Aside0.mk (below_step (by repeat (first | (with_reducible first | exact HB.out | apply below_alloc | apply pw_below_drewN | apply below_drew1) | exact HB.out)) hb); clear HB; have HO209 := n0_; have HB := n1_; clear n0_ n1_; (try clear hb); (try clear hb2); (try clear hk); (try clear hi); (try clear ho0))); try go_wp2_with (first | (go_at_call 22; (with_reducible refine (code_TakeNum.calls k _ _ l0 t205 t206 t207 _ ?side1 ?side2 A2.out).mono ?_); (case side1 => repeat (first | exact HR0.out | (with_reducible refine Kd.C_alloc ?_ _) | (with_reducible refine Kd.C_drewN ?_ _) | (with_reducible refine Kd.C_drew ?_))); (case side2 => exact HC0.out); rintro e w17 ⟨v208, rfl, ho0, hb⟩; have n0_ := Aside0.mk (Kd.R_lower ho0 (below_size (by repeat (first | (with_reducible first | exact HB.out | apply below_alloc | apply pw_below_drewN | apply below_drew1) | exact HB.out)))); have n1_ := Aside0.mk (below_step (by repeat (first | (with_reducible first | exact HB.out | apply below_alloc | apply pw_below_drewN | apply below_drew1) | exact HB.out)) hb); clear HB; have HO209 := n0_; have HB := n1_; clear n0_ n1_; (try clear hb); (try clear hb2); (try clear hk); (try clear hi); (try clear ho0))))
    go_ret3
    exact ⟨_, by first | rfl | (simp [errW_none, errW_some] <;> rfl) | (simp [*, errW_none, errW_some] <;> rfl), Kd.Q_of_R (by first | exact Kd.R_nil _ _ _ _ _ | exact Kd.N_nil _ _ _ _ _ | exact Kd.V_nil _ _ _ _ _ | exact Kd.Q_nil _ _ _ _ _ | exact Kd.S_nil _ _ _ _ _), by repeat (first | (with_reducible first | exact HB.out | apply below_alloc | apply pw_below_drewN | apply below_drew1) | exact HB.out)⟩

/-! ### haywainref02_TakeText: function 25 -/
def haywainref02_TakeText.f (k : Nat) (l0 : List Int) : Option (ByteArray × Int × Bool) := (haywainref02_TakeNum.f k l0).bind fun bt217 => (if bt217.2 = true then (if bt217.1 < 0 then (some ((⟨#[]⟩ : ByteArray), 0, false)) else (if bt217.1 > (wrap64 ((l0.length : Int) - 8)) then (some ((⟨#[]⟩ : ByteArray), 0, false)) else (if 8 ≤ (wrap64 (8 + bt217.1)) then (if (wrap64 (8 + bt217.1)) ≤ (l0.length : Int) then (some (strOfNums ((l0.take ((wrap64 (8 + bt217.1)) : Int).toNat).drop 8), wrap64 (8 + bt217.1), true)) else (none)) else (none)))) else (some ((⟨#[]⟩ : ByteArray), 0, false)))
theorem haywainref02_TakeText.mono : ∀ a0 k, LeO (haywainref02_TakeText.f k a0) (haywainref02_TakeText.f (k + 1) a0) := by
  intro a0 k
  unfold haywainref02_TakeText.f
  repeat' first
      | (with_reducible exact haywainref02_TakeNum.mono _ _)
      | (with_reducible exact LeO.refl _)
      | (with_reducible exact LeO.none _)
      | (with_reducible refine LeO.ite ?_ ?_)
      | (with_reducible refine LeO.bind ?_ (fun _ => ?_))
      | exact haywainref02_TakeNum.mono _ _
      | exact LeO.none _
      | refine LeO.ite ?_ ?_
      | refine LeO.bind ?_ (fun _ => ?_)
set_option maxHeartbeats 8000000 in
set_option maxRecDepth 100000 in
theorem haywainref02_TakeText.calls (k : Nat) (A0 : Option Addr) (c0 : Nat) (l0 : List Int) (r1 : ByteArray) (r2 : Int) (r3 : Bool) (w : World) (hr0 : Kd.C (Kd.int .u8) w A0 l0.length l0) (hc0 : l0.length ≤ c0) (h : haywainref02_TakeText.f k l0 = some (r1, r2, r3)) :
    Calls Try.prog 25 #[.slice A0 l0.length c0] w fun e w' => e = .returned (.tuple #[.string r1, .int .i64 r2, .bool r3]) ∧ Drawn0 w w' := by
  have HR0 := Aside0.mk hr0
  have HC0 := Aside0.mk hc0
  clear hr0 hc0
  have H : ((haywainref02_TakeNum.f k l0).bind fun bt217 => (if bt217.2 = true then (if bt217.1 < 0 then (some ((⟨#[]⟩ : ByteArray), 0, false)) else (if bt217.1 > (wrap64 ((l0.length : Int) - 8)) then (some ((⟨#[]⟩ : ByteArray), 0, false)) else (if 8 ≤ (wrap64 (8 + bt217.1)) then (if (wrap64 (8 + bt217.1)) ≤ (l0.length : Int) then (some (strOfNums ((l0.take ((wrap64 (8 + bt217.1)) : Int).toNat).drop 8), wrap64 (8 + bt217.1), true)) else (none)) else (none)))) else (some ((⟨#[]⟩ : ByteArray), 0, false)))) = some (r1, r2, r3) := h
  clear h
  replace H := Option.bind_eq_some_iff.mp H
  obtain ⟨⟨t217, t218⟩, A20, H⟩ := H
  replace H : (if t218 = true then (if t217 < 0 then (some ((⟨#[]⟩ : ByteArray), 0, false)) else (if t217 > (wrap64 ((l0.length : Int) - 8)) then (some ((⟨#[]⟩ : ByteArray), 0, false)) else (if 8 ≤ (wrap64 (8 + t217)) then (if (wrap64 (8 + t217)) ≤ (l0.length : Int) then (some (strOfNums ((l0.take ((wrap64 (8 + t217)) : Int).toNat).drop 8), wrap64 (8 + t217), true)) else (none)) else (none)))) else (some ((⟨#[]⟩ : ByteArray), 0, false))) = some (r1, r2, r3) := H
  have A2 := Aside0.mk A20
  clear A20
  by_cases c3 : t218 = true
  · subst c3
    have H1 : (if t217 < 0 then (some ((⟨#[]⟩ : ByteArray), 0, false)) else (if t217 > (wrap64 ((l0.length : Int) - 8)) then (some ((⟨#[]⟩ : ByteArray), 0, false)) else (if 8 ≤ (wrap64 (8 + t217)) then (if (wrap64 (8 + t217)) ≤ (l0.length : Int) then (some (strOfNums ((l0.take ((wrap64 (8 + t217)) : Int).toNat).drop 8), wrap64 (8 + t217), true)) else (none)) else (none)))) = some (r1, r2, r3) := by rw [if_pos rfl] at H; exact H
    clear H
    have H := H1
    clear H1
    by_cases c4 : t217 < 0
    · rw [if_pos c4] at H
      have c4b0 : decide (t217 < 0) = true := decide_eq_true c4
      clear c4
      simp only [Option.some.injEq, Prod.mk.injEq] at H
      obtain ⟨rfl, rfl, rfl⟩ := H
      go_enter Try.func25, Try.ntmps25
      go_wp2_with (first | ((with_reducible refine gate_callee (f := 23) rfl ?_); refine goesL_ (some 9) rfl rfl Try.func23 (by kernel_rfl) rfl #[.slice A0 l0.length c0] rfl (by (try simp only [List.map_toArray, List.map_cons, List.map_nil]); first | done | rfl | (simp only [List.length_drop, List.length_take]; rfl)) ?_; (with_reducible refine (haywainref02_TakeNum.calls k _ _ l0 t217 true _ ?side1 ?side2 A2.out).mono ?_); (case side1 => repeat (first | exact HR0.out | (with_reducible refine Kd.C_alloc ?_ _) | (with_reducible refine Kd.C_drewN ?_ _) | (with_reducible refine Kd.C_drew ?_))); (case side2 => exact HC0.out); rintro e w' ⟨rfl, ⟨nd, rfl⟩⟩; refine ⟨_, rfl, ?_⟩))
      go_ret3
      exact ⟨by first | rfl | (simp; done) | (simp [*]; done), by repeat (first | exact Drawn0.refl _ | apply Drawn0.step)⟩
    · rw [if_neg c4] at H
      have c4b0 : decide (t217 < 0) = false := decide_eq_false c4
      clear c4
      by_cases c5 : t217 > (wrap64 ((l0.length : Int) - 8))
      · rw [if_pos c5] at H
        have c5b0 : decide ((wrap64 ((l0.length : Int) - 8)) < t217) = true := decide_eq_true c5
        clear c5
        simp only [Option.some.injEq, Prod.mk.injEq] at H
        obtain ⟨rfl, rfl, rfl⟩ := H
        go_enter Try.func25, Try.ntmps25
        go_wp2_with (first | ((with_reducible refine gate_callee (f := 23) rfl ?_); refine goesL_ (some 9) rfl rfl Try.func23 (by kernel_rfl) rfl #[.slice A0 l0.length c0] rfl (by (try simp only [List.map_toArray, List.map_cons, List.map_nil]); first | done | rfl | (simp only [List.length_drop, List.length_take]; rfl)) ?_; (with_reducible refine (haywainref02_TakeNum.calls k _ _ l0 t217 true _ ?side1 ?side2 A2.out).mono ?_); (case side1 => repeat (first | exact HR0.out | (with_reducible refine Kd.C_alloc ?_ _) | (with_reducible refine Kd.C_drewN ?_ _) | (with_reducible refine Kd.C_drew ?_))); (case side2 => exact HC0.out); rintro e w' ⟨rfl, ⟨nd, rfl⟩⟩; refine ⟨_, rfl, ?_⟩))
        go_ret3
        exact ⟨by first | rfl | (simp; done) | (simp [*]; done), by repeat (first | exact Drawn0.refl _ | apply Drawn0.step)⟩
      · rw [if_neg c5] at H
        have c5b0 : decide ((wrap64 ((l0.length : Int) - 8)) < t217) = false := decide_eq_false c5
        clear c5
        by_cases c6 : 8 ≤ (wrap64 (8 + t217))
        · rw [if_pos c6] at H
          have c6b0 := eq_true c6
          have c6b1 : decide (8 ≤ (wrap64 (8 + t217))) = true := decide_eq_true c6
          by_cases c7 : (wrap64 (8 + t217)) ≤ (l0.length : Int)
          · rw [if_pos c7] at H
            have c7b0 := eq_true c7
            have c7b1 : decide ((wrap64 (8 + t217)) ≤ (l0.length : Int)) = true := decide_eq_true c7
            simp only [Option.some.injEq, Prod.mk.injEq] at H
            obtain ⟨rfl, rfl, rfl⟩ := H
            go_enter Try.func25, Try.ntmps25
            go_wp2_with (first | ((with_reducible refine gate_callee (f := 23) rfl ?_); refine goesL_ (some 9) rfl rfl Try.func23 (by kernel_rfl) rfl #[.slice A0 l0.length c0] rfl (by (try simp only [List.map_toArray, List.map_cons, List.map_nil]); first | done | rfl | (simp only [List.length_drop, List.length_take]; rfl)) ?_; (with_reducible refine (haywainref02_TakeNum.calls k _ _ l0 t217 true _ ?side1 ?side2 A2.out).mono ?_); (case side1 => repeat (first | exact HR0.out | (with_reducible refine Kd.C_alloc ?_ _) | (with_reducible refine Kd.C_drewN ?_ _) | (with_reducible refine Kd.C_drew ?_))); (case side2 => exact HC0.out); rintro e w' ⟨rfl, ⟨nd, rfl⟩⟩; refine ⟨_, rfl, ?_⟩; obtain ⟨i08, hi08, _, hsz8, _⟩ := info_parts info5; obtain ⟨A8, hcut8, hA8, hC8⟩ := print_mid_of (P := Try.prog) (Value.int .u8) 0 22 5 .i64 .i64 Try.underlying22 hi08 hsz8 A0 c0 l0 8 (wrap64 (8 + t217)) (by omega) (by first | omega | exact of_decide_eq_true (by first | (with_reducible assumption) | assumption)) (of_decide_eq_true (by first | (with_reducible assumption) | assumption)) HC0.out; have HR219 := Aside0.mk (Kd.C_of_reads (h1 := fun _ => rfl) (hA8 _ (Kd.reads_of_C HR0.out))); have HC219 := Aside0.mk hC8; clear hA8 hC8 hi08 hsz8; have hcv9 := Kd.C_string (P := Try.prog) (A := A8) (c := (c0 - 8)) Try.underlying22 Try.underlying5 Try.underlying9 HR219.out; have hcvs9 := Kd.C_string (P := Try.prog) (A := A8) (c := (c0 - 8)) Try.underlying22 Try.underlying5 Try.underlying9 HR219.out; try simp only [Int.reduceToNat] at hcvs9; rw [show ((l0.take ((wrap64 (8 + t217)) : Int).toNat).drop 8).length = ((wrap64 (8 + t217)).toNat - 8) from (by rw [List.length_drop, List.length_take]; have h_ : ((wrap64 (8 + t217)) : Int) ≤ (l0.length : Int) := of_decide_eq_true (by first | (with_reducible assumption) | assumption); omega)] at hcvs9; have hcvt9 := fun (q_ : Nat) => (by have h_ := Kd.C_string (P := Try.prog) (A := A8) (c := (c0 - 8)) Try.underlying22 Try.underlying5 Try.underlying9 (Kd.C_drewN HR219.out q_); (try simp only [Int.reduceToNat] at h_); rw [show ((l0.take ((wrap64 (8 + t217)) : Int).toNat).drop 8).length = ((wrap64 (8 + t217)).toNat - 8) from (by rw [List.length_drop, List.length_take]; have h_ : ((wrap64 (8 + t217)) : Int) ≤ (l0.length : Int) := of_decide_eq_true (by first | (with_reducible assumption) | assumption); omega)] at h_; exact h_)))
            go_ret3
            exact ⟨by first | rfl | (simp; done) | (simp [*]; done), by repeat (first | exact Drawn0.refl _ | apply Drawn0.step)⟩
          · rw [if_neg c7] at H
            exact absurd H (by simp)
        · rw [if_neg c6] at H
          exact absurd H (by simp)
  · replace c3 := Bool.eq_false_iff.mpr c3
    subst c3
    have H1 : (some ((⟨#[]⟩ : ByteArray), 0, false)) = some (r1, r2, r3) := by rw [if_neg (show ¬ (false = true) by decide)] at H; exact H
    clear H
    have H := H1
    clear H1
    simp only [Option.some.injEq, Prod.mk.injEq] at H
    obtain ⟨rfl, rfl, rfl⟩ := H
    go_enter Try.func25, Try.ntmps25
    go_wp2_with (first | ((with_reducible refine gate_callee (f := 23) rfl ?_); refine goesL_ (some 9) rfl rfl Try.func23 (by kernel_rfl) rfl #[.slice A0 l0.length c0] rfl (by (try simp only [List.map_toArray, List.map_cons, List.map_nil]); first | done | rfl | (simp only [List.length_drop, List.length_take]; rfl)) ?_; (with_reducible refine (haywainref02_TakeNum.calls k _ _ l0 t217 false _ ?side1 ?side2 A2.out).mono ?_); (case side1 => repeat (first | exact HR0.out | (with_reducible refine Kd.C_alloc ?_ _) | (with_reducible refine Kd.C_drewN ?_ _) | (with_reducible refine Kd.C_drew ?_))); (case side2 => exact HC0.out); rintro e w' ⟨rfl, ⟨nd, rfl⟩⟩; refine ⟨_, rfl, ?_⟩))
    go_ret3
    exact ⟨by first | rfl | (simp; done) | (simp [*]; done), by repeat (first | exact Drawn0.refl _ | apply Drawn0.step)⟩

end Go.Proofs.Ytpachjomjoaipaa.PCodeTakes
