-- PRINTED BY print.sh 35421559b90ae4d0a3588c463048766b98c2df88dd9212a6774a882060cdf62d: not written by this session
import Derived.Test.YtennlpldfjgldaaPLeaseRenewsx0
import Derived.Test.YtennlpldfjgldaaPLeaseRenewsx1
namespace Go.Proofs.Ytennlpldfjgldaa.PLeaseRenews
open Go.RowKit Go.Proofs.YtennlpldfjgldaaW.PrintWords Go.Proofs.YtennlpldfjgldaaW.PrintLast Go.Proofs.YtennlpldfjgldaaW.PrintMore
attribute [local go_sem] max2_int min2_int max_two min_two max_three min_three max_four min_four   -- for this text's walks alone
set_option linter.unusedVariables false
set_option linter.unusedSimpArgs false

/-! ### haywainlaw12_LeaseRenews: function 8 -/
mutual
def haywainlaw12_LeaseRenews.j0 : Nat → Int → Int → Int → List Int → Bool → Option (Bool)
  | 0, _, _, _, _, _ => none
  | k + 1, x0, x1, x2, x3, x40 => if x40 = true then ((haywainlaw12_knows.f k).bind fun t124 => (some t124)) else (haywainlaw12_LeaseRenews.l0 k x0 x1 x2 x3 0 0 (-1) (-1) 0)
def haywainlaw12_LeaseRenews.l0 : Nat → Int → Int → Int → List Int → Int → Int → Int → Int → Int → Option (Bool)
  | 0, _, _, _, _, _, _, _, _, _ => none
  | k + 1, x0, x1, x2, x3, x9, x10, x11, x12, x13 => if x13 < (x3.length : Int) then (haywainlaw12_LeaseRenews.j2 k x0 x1 x2 x3 x9 x10 x11 x12 x13 (decide (x13 < 100))) else (haywainlaw12_LeaseRenews.j2 k x0 x1 x2 x3 x9 x10 x11 x12 x13 false)
def haywainlaw12_LeaseRenews.j2 : Nat → Int → Int → Int → List Int → Int → Int → Int → Int → Int → Bool → Option (Bool)
  | 0, _, _, _, _, _, _, _, _, _, _ => none
  | k + 1, x0, x1, x2, x3, x9, x10, x11, x12, x13, x49 => if x49 = true then (if 0 ≤ x13 then (if x13 < (x3.length : Int) then (if (Int.tmod (wrap64 (Int.tdiv (wrap64 (rd x3 x13)) 9)) 4) = 0 then (haywainlaw12_LeaseRenews.j3 k (wrap64 ((wrap64 (x0 + 7)) + (Int.tmod (wrap64 (rd x3 x13)) 3))) (wrap64 ((wrap64 (x1 + 7)) + (Int.tmod (wrap64 (Int.tdiv (wrap64 (rd x3 x13)) 3)) 3))) x2 x3 x9 x10 (wrap64 ((wrap64 (x0 + 7)) + (Int.tmod (wrap64 (rd x3 x13)) 3))) x12 x13 (wrap64 (rd x3 x13))) else (haywainlaw12_LeaseRenews.j3 k (wrap64 ((wrap64 (x0 + 7)) + (Int.tmod (wrap64 (rd x3 x13)) 3))) (wrap64 ((wrap64 (x1 + 7)) + (Int.tmod (wrap64 (Int.tdiv (wrap64 (rd x3 x13)) 3)) 3))) x2 x3 x9 x10 x11 x12 x13 (wrap64 (rd x3 x13)))) else (none)) else (none)) else ((haywainlaw12_knows.f k).bind fun t125 => (some t125))
def haywainlaw12_LeaseRenews.j3 : Nat → Int → Int → Int → List Int → Int → Int → Int → Int → Int → Int → Option (Bool)
  | 0, _, _, _, _, _, _, _, _, _, _ => none
  | k + 1, x0, x1, x2, x3, x9, x10, x11, x12, x13, x14 => if (Int.tmod (wrap64 (Int.tdiv x14 36)) 3) = 0 then (haywainlaw12_LeaseRenews.j4 k x0 x1 x2 x3 x9 x10 x11 x12 x13 x14 (decide (x11 ≥ 0))) else (haywainlaw12_LeaseRenews.j4 k x0 x1 x2 x3 x9 x10 x11 x12 x13 x14 false)
def haywainlaw12_LeaseRenews.j4 : Nat → Int → Int → Int → List Int → Int → Int → Int → Int → Int → Int → Bool → Option (Bool)
  | 0, _, _, _, _, _, _, _, _, _, _, _ => none
  | k + 1, x0, x1, x2, x3, x9, x10, x11, x12, x13, x14, x80 => if x80 = true then ((lease_Free.f k x1 x2).bind fun bt127 => (if bt127.2 = 0 then (haywainlaw12_LeaseRenews.j5 k x0 x1 x2 x3 x9 bt127.1 x11 x11 x13 x14) else (some false))) else (haywainlaw12_LeaseRenews.j5 k x0 x1 x2 x3 x9 x10 x11 x12 x13 x14)
def haywainlaw12_LeaseRenews.j5 : Nat → Int → Int → Int → List Int → Int → Int → Int → Int → Int → Int → Option (Bool)
  | 0, _, _, _, _, _, _, _, _, _, _ => none
  | k + 1, x0, x1, x2, x3, x9, x10, x11, x12, x13, x14 => if (wrap64 (Int.tdiv x14 108)) = 0 then (haywainlaw12_LeaseRenews.j6 k x0 x1 x2 x3 x9 x10 x11 x12 x13 (decide (x12 ≥ 0))) else (haywainlaw12_LeaseRenews.j6 k x0 x1 x2 x3 x9 x10 x11 x12 x13 false)
def haywainlaw12_LeaseRenews.j6 : Nat → Int → Int → Int → List Int → Int → Int → Int → Int → Int → Bool → Option (Bool)
  | 0, _, _, _, _, _, _, _, _, _, _ => none
  | k + 1, x0, x1, x2, x3, x9, x10, x11, x12, x13, x97 => if x97 = true then ((lease_Until.f k x12 x2).bind fun bt129 => (if bt129.2 = 0 then (if bt129.1 > x9 then (haywainlaw12_LeaseRenews.j7 k x0 x1 x2 x3 bt129.1 x10 x11 x12 x13) else (haywainlaw12_LeaseRenews.j7 k x0 x1 x2 x3 x9 x10 x11 x12 x13)) else (some false))) else (haywainlaw12_LeaseRenews.j7 k x0 x1 x2 x3 x9 x10 x11 x12 x13)
def haywainlaw12_LeaseRenews.j7 : Nat → Int → Int → Int → List Int → Int → Int → Int → Int → Int → Option (Bool)
  | 0, _, _, _, _, _, _, _, _, _ => none
  | k + 1, x0, x1, x2, x3, x9, x10, x11, x12, x13 => if x12 ≥ 0 then (if x9 > 0 then ((lease_Holds.f x0 x9).bind fun t131 => (if t131 = true then ((lease_Gone.f x1 x10).bind fun t132 => (if t132 = true then (some false) else (haywainlaw12_LeaseRenews.l0 k x0 x1 x2 x3 x9 x10 x11 x12 (wrap64 (x13 + 1))))) else (haywainlaw12_LeaseRenews.l0 k x0 x1 x2 x3 x9 x10 x11 x12 (wrap64 (x13 + 1))))) else (haywainlaw12_LeaseRenews.l0 k x0 x1 x2 x3 x9 x10 x11 x12 (wrap64 (x13 + 1)))) else (haywainlaw12_LeaseRenews.l0 k x0 x1 x2 x3 x9 x10 x11 x12 (wrap64 (x13 + 1)))
end
def haywainlaw12_LeaseRenews.f (k : Nat) (a0 : Int) (a1 : Int) (a2 : Int) (l3 : List Int) : Option (Bool) := if a0 < 0 then (haywainlaw12_LeaseRenews.j0 k a0 a1 a2 l3 true) else (if a0 > 1073741824 then (haywainlaw12_LeaseRenews.j0 k a0 a1 a2 l3 true) else (if a1 < 0 then (haywainlaw12_LeaseRenews.j0 k a0 a1 a2 l3 true) else (if a1 > 1073741824 then (haywainlaw12_LeaseRenews.j0 k a0 a1 a2 l3 true) else (if a2 < 1 then (haywainlaw12_LeaseRenews.j0 k a0 a1 a2 l3 true) else (haywainlaw12_LeaseRenews.j0 k a0 a1 a2 l3 (decide (a2 > 30)))))))
theorem haywainlaw12_LeaseRenews.mono_l : ∀ k, (∀ y0 y1 y2 y3 y4, LeO (haywainlaw12_LeaseRenews.j0 k y0 y1 y2 y3 y4) (haywainlaw12_LeaseRenews.j0 (k + 1) y0 y1 y2 y3 y4)) ∧ (∀ y0 y1 y2 y3 y4 y5 y6 y7 y8, LeO (haywainlaw12_LeaseRenews.l0 k y0 y1 y2 y3 y4 y5 y6 y7 y8) (haywainlaw12_LeaseRenews.l0 (k + 1) y0 y1 y2 y3 y4 y5 y6 y7 y8)) ∧ (∀ y0 y1 y2 y3 y4 y5 y6 y7 y8 y9, LeO (haywainlaw12_LeaseRenews.j2 k y0 y1 y2 y3 y4 y5 y6 y7 y8 y9) (haywainlaw12_LeaseRenews.j2 (k + 1) y0 y1 y2 y3 y4 y5 y6 y7 y8 y9)) ∧ (∀ y0 y1 y2 y3 y4 y5 y6 y7 y8 y9, LeO (haywainlaw12_LeaseRenews.j3 k y0 y1 y2 y3 y4 y5 y6 y7 y8 y9) (haywainlaw12_LeaseRenews.j3 (k + 1) y0 y1 y2 y3 y4 y5 y6 y7 y8 y9)) ∧ (∀ y0 y1 y2 y3 y4 y5 y6 y7 y8 y9 y10, LeO (haywainlaw12_LeaseRenews.j4 k y0 y1 y2 y3 y4 y5 y6 y7 y8 y9 y10) (haywainlaw12_LeaseRenews.j4 (k + 1) y0 y1 y2 y3 y4 y5 y6 y7 y8 y9 y10)) ∧ (∀ y0 y1 y2 y3 y4 y5 y6 y7 y8 y9, LeO (haywainlaw12_LeaseRenews.j5 k y0 y1 y2 y3 y4 y5 y6 y7 y8 y9) (haywainlaw12_LeaseRenews.j5 (k + 1) y0 y1 y2 y3 y4 y5 y6 y7 y8 y9)) ∧ (∀ y0 y1 y2 y3 y4 y5 y6 y7 y8 y9, LeO (haywainlaw12_LeaseRenews.j6 k y0 y1 y2 y3 y4 y5 y6 y7 y8 y9) (haywainlaw12_LeaseRenews.j6 (k + 1) y0 y1 y2 y3 y4 y5 y6 y7 y8 y9)) ∧ (∀ y0 y1 y2 y3 y4 y5 y6 y7 y8, LeO (haywainlaw12_LeaseRenews.j7 k y0 y1 y2 y3 y4 y5 y6 y7 y8) (haywainlaw12_LeaseRenews.j7 (k + 1) y0 y1 y2 y3 y4 y5 y6 y7 y8))
  | 0 => ⟨fun _ _ _ _ _ r h => by simp [haywainlaw12_LeaseRenews.j0] at h, fun _ _ _ _ _ _ _ _ _ r h => by simp [haywainlaw12_LeaseRenews.l0] at h, fun _ _ _ _ _ _ _ _ _ _ r h => by simp [haywainlaw12_LeaseRenews.j2] at h, fun _ _ _ _ _ _ _ _ _ _ r h => by simp [haywainlaw12_LeaseRenews.j3] at h, fun _ _ _ _ _ _ _ _ _ _ _ r h => by simp [haywainlaw12_LeaseRenews.j4] at h, fun _ _ _ _ _ _ _ _ _ _ r h => by simp [haywainlaw12_LeaseRenews.j5] at h, fun _ _ _ _ _ _ _ _ _ _ r h => by simp [haywainlaw12_LeaseRenews.j6] at h, fun _ _ _ _ _ _ _ _ _ r h => by simp [haywainlaw12_LeaseRenews.j7] at h⟩
  | k + 1 => by
    obtain ⟨ih0, ih1, ih2, ih3, ih4, ih5, ih6, ih7⟩ := haywainlaw12_LeaseRenews.mono_l k
    refine ⟨?_, ?_, ?_, ?_, ?_, ?_, ?_, ?_⟩
    · intro y0 y1 y2 y3 y4
      unfold haywainlaw12_LeaseRenews.j0
      repeat' first
      | (with_reducible exact ih0 _ _ _ _ _)
      | (with_reducible exact ih1 _ _ _ _ _ _ _ _ _)
      | (with_reducible exact ih2 _ _ _ _ _ _ _ _ _ _)
      | (with_reducible exact ih3 _ _ _ _ _ _ _ _ _ _)
      | (with_reducible exact ih4 _ _ _ _ _ _ _ _ _ _ _)
      | (with_reducible exact ih5 _ _ _ _ _ _ _ _ _ _)
      | (with_reducible exact ih6 _ _ _ _ _ _ _ _ _ _)
      | (with_reducible exact ih7 _ _ _ _ _ _ _ _ _)
      | (with_reducible exact haywainlaw12_knows.mono _)
      | (with_reducible exact lease_Free.mono _ _ _)
      | (with_reducible exact lease_Until.mono _ _ _)
      | (with_reducible exact LeO.refl _)
      | (with_reducible exact LeO.none _)
      | (with_reducible refine LeO.ite ?_ ?_)
      | (with_reducible refine LeO.bind ?_ (fun _ => ?_))
      | exact ih0 _ _ _ _ _
      | exact ih1 _ _ _ _ _ _ _ _ _
      | exact ih2 _ _ _ _ _ _ _ _ _ _
      | exact ih3 _ _ _ _ _ _ _ _ _ _
      | exact ih4 _ _ _ _ _ _ _ _ _ _ _
      | exact ih5 _ _ _ _ _ _ _ _ _ _
      | exact ih6 _ _ _ _ _ _ _ _ _ _
      | exact ih7 _ _ _ _ _ _ _ _ _
      | exact haywainlaw12_knows.mono _
      | exact lease_Free.mono _ _ _
      | exact lease_Until.mono _ _ _
      | exact LeO.none _
      | refine LeO.ite ?_ ?_
      | refine LeO.bind ?_ (fun _ => ?_)
    · intro y0 y1 y2 y3 y4 y5 y6 y7 y8
      unfold haywainlaw12_LeaseRenews.l0
      repeat' first
      | (with_reducible exact ih0 _ _ _ _ _)
      | (with_reducible exact ih1 _ _ _ _ _ _ _ _ _)
      | (with_reducible exact ih2 _ _ _ _ _ _ _ _ _ _)
      | (with_reducible exact ih3 _ _ _ _ _ _ _ _ _ _)
      | (with_reducible exact ih4 _ _ _ _ _ _ _ _ _ _ _)
      | (with_reducible exact ih5 _ _ _ _ _ _ _ _ _ _)
      | (with_reducible exact ih6 _ _ _ _ _ _ _ _ _ _)
      | (with_reducible exact ih7 _ _ _ _ _ _ _ _ _)
      | (with_reducible exact haywainlaw12_knows.mono _)
      | (with_reducible exact lease_Free.mono _ _ _)
      | (with_reducible exact lease_Until.mono _ _ _)
      | (with_reducible exact LeO.refl _)
      | (with_reducible exact LeO.none _)
      | (with_reducible refine LeO.ite ?_ ?_)
      | (with_reducible refine LeO.bind ?_ (fun _ => ?_))
      | exact ih0 _ _ _ _ _
      | exact ih1 _ _ _ _ _ _ _ _ _
      | exact ih2 _ _ _ _ _ _ _ _ _ _
      | exact ih3 _ _ _ _ _ _ _ _ _ _
      | exact ih4 _ _ _ _ _ _ _ _ _ _ _
      | exact ih5 _ _ _ _ _ _ _ _ _ _
      | exact ih6 _ _ _ _ _ _ _ _ _ _
      | exact ih7 _ _ _ _ _ _ _ _ _
      | exact haywainlaw12_knows.mono _
      | exact lease_Free.mono _ _ _
      | exact lease_Until.mono _ _ _
      | exact LeO.none _
      | refine LeO.ite ?_ ?_
      | refine LeO.bind ?_ (fun _ => ?_)
    · intro y0 y1 y2 y3 y4 y5 y6 y7 y8 y9
      unfold haywainlaw12_LeaseRenews.j2
      repeat' first
      | (with_reducible exact ih0 _ _ _ _ _)
      | (with_reducible exact ih1 _ _ _ _ _ _ _ _ _)
      | (with_reducible exact ih2 _ _ _ _ _ _ _ _ _ _)
      | (with_reducible exact ih3 _ _ _ _ _ _ _ _ _ _)
      | (with_reducible exact ih4 _ _ _ _ _ _ _ _ _ _ _)
      | (with_reducible exact ih5 _ _ _ _ _ _ _ _ _ _)
      | (with_reducible exact ih6 _ _ _ _ _ _ _ _ _ _)
      | (with_reducible exact ih7 _ _ _ _ _ _ _ _ _)
      | (with_reducible exact haywainlaw12_knows.mono _)
      | (with_reducible exact lease_Free.mono _ _ _)
      | (with_reducible exact lease_Until.mono _ _ _)
      | (with_reducible exact LeO.refl _)
      | (with_reducible exact LeO.none _)
      | (with_reducible refine LeO.ite ?_ ?_)
      | (with_reducible refine LeO.bind ?_ (fun _ => ?_))
      | exact ih0 _ _ _ _ _
      | exact ih1 _ _ _ _ _ _ _ _ _
      | exact ih2 _ _ _ _ _ _ _ _ _ _
      | exact ih3 _ _ _ _ _ _ _ _ _ _
      | exact ih4 _ _ _ _ _ _ _ _ _ _ _
      | exact ih5 _ _ _ _ _ _ _ _ _ _
      | exact ih6 _ _ _ _ _ _ _ _ _ _
      | exact ih7 _ _ _ _ _ _ _ _ _
      | exact haywainlaw12_knows.mono _
      | exact lease_Free.mono _ _ _
      | exact lease_Until.mono _ _ _
      | exact LeO.none _
      | refine LeO.ite ?_ ?_
      | refine LeO.bind ?_ (fun _ => ?_)
    · intro y0 y1 y2 y3 y4 y5 y6 y7 y8 y9
      unfold haywainlaw12_LeaseRenews.j3
      repeat' first
      | (with_reducible exact ih0 _ _ _ _ _)
      | (with_reducible exact ih1 _ _ _ _ _ _ _ _ _)
      | (with_reducible exact ih2 _ _ _ _ _ _ _ _ _ _)
      | (with_reducible exact ih3 _ _ _ _ _ _ _ _ _ _)
      | (with_reducible exact ih4 _ _ _ _ _ _ _ _ _ _ _)
      | (with_reducible exact ih5 _ _ _ _ _ _ _ _ _ _)
      | (with_reducible exact ih6 _ _ _ _ _ _ _ _ _ _)
      | (with_reducible exact ih7 _ _ _ _ _ _ _ _ _)
      | (with_reducible exact haywainlaw12_knows.mono _)
      | (with_reducible exact lease_Free.mono _ _ _)
      | (with_reducible exact lease_Until.mono _ _ _)
      | (with_reducible exact LeO.refl _)
      | (with_reducible exact LeO.none _)
      | (with_reducible refine LeO.ite ?_ ?_)
      | (with_reducible refine LeO.bind ?_ (fun _ => ?_))
      | exact ih0 _ _ _ _ _
      | exact ih1 _ _ _ _ _ _ _ _ _
      | exact ih2 _ _ _ _ _ _ _ _ _ _
      | exact ih3 _ _ _ _ _ _ _ _ _ _
      | exact ih4 _ _ _ _ _ _ _ _ _ _ _
      | exact ih5 _ _ _ _ _ _ _ _ _ _
      | exact ih6 _ _ _ _ _ _ _ _ _ _
      | exact ih7 _ _ _ _ _ _ _ _ _
      | exact haywainlaw12_knows.mono _
      | exact lease_Free.mono _ _ _
      | exact lease_Until.mono _ _ _
      | exact LeO.none _
      | refine LeO.ite ?_ ?_
      | refine LeO.bind ?_ (fun _ => ?_)
    · intro y0 y1 y2 y3 y4 y5 y6 y7 y8 y9 y10
      unfold haywainlaw12_LeaseRenews.j4
      repeat' first
      | (with_reducible exact ih0 _ _ _ _ _)
      | (with_reducible exact ih1 _ _ _ _ _ _ _ _ _)
      | (with_reducible exact ih2 _ _ _ _ _ _ _ _ _ _)
      | (with_reducible exact ih3 _ _ _ _ _ _ _ _ _ _)
      | (with_reducible exact ih4 _ _ _ _ _ _ _ _ _ _ _)
      | (with_reducible exact ih5 _ _ _ _ _ _ _ _ _ _)
      | (with_reducible exact ih6 _ _ _ _ _ _ _ _ _ _)
      | (with_reducible exact ih7 _ _ _ _ _ _ _ _ _)
      | (with_reducible exact haywainlaw12_knows.mono _)
      | (with_reducible exact lease_Free.mono _ _ _)
      | (with_reducible exact lease_Until.mono _ _ _)
      | (with_reducible exact LeO.refl _)
      | (with_reducible exact LeO.none _)
      | (with_reducible refine LeO.ite ?_ ?_)
      | (with_reducible refine LeO.bind ?_ (fun _ => ?_))
      | exact ih0 _ _ _ _ _
      | exact ih1 _ _ _ _ _ _ _ _ _
      | exact ih2 _ _ _ _ _ _ _ _ _ _
      | exact ih3 _ _ _ _ _ _ _ _ _ _
      | exact ih4 _ _ _ _ _ _ _ _ _ _ _
      | exact ih5 _ _ _ _ _ _ _ _ _ _
      | exact ih6 _ _ _ _ _ _ _ _ _ _
      | exact ih7 _ _ _ _ _ _ _ _ _
      | exact haywainlaw12_knows.mono _
      | exact lease_Free.mono _ _ _
      | exact lease_Until.mono _ _ _
      | exact LeO.none _
      | refine LeO.ite ?_ ?_
      | refine LeO.bind ?_ (fun _ => ?_)
    · intro y0 y1 y2 y3 y4 y5 y6 y7 y8 y9
      unfold haywainlaw12_LeaseRenews.j5
      repeat' first
      | (with_reducible exact ih0 _ _ _ _ _)
      | (with_reducible exact ih1 _ _ _ _ _ _ _ _ _)
      | (with_reducible exact ih2 _ _ _ _ _ _ _ _ _ _)
      | (with_reducible exact ih3 _ _ _ _ _ _ _ _ _ _)
      | (with_reducible exact ih4 _ _ _ _ _ _ _ _ _ _ _)
      | (with_reducible exact ih5 _ _ _ _ _ _ _ _ _ _)
      | (with_reducible exact ih6 _ _ _ _ _ _ _ _ _ _)
      | (with_reducible exact ih7 _ _ _ _ _ _ _ _ _)
      | (with_reducible exact haywainlaw12_knows.mono _)
      | (with_reducible exact lease_Free.mono _ _ _)
      | (with_reducible exact lease_Until.mono _ _ _)
      | (with_reducible exact LeO.refl _)
      | (with_reducible exact LeO.none _)
      | (with_reducible refine LeO.ite ?_ ?_)
      | (with_reducible refine LeO.bind ?_ (fun _ => ?_))
      | exact ih0 _ _ _ _ _
      | exact ih1 _ _ _ _ _ _ _ _ _
      | exact ih2 _ _ _ _ _ _ _ _ _ _
      | exact ih3 _ _ _ _ _ _ _ _ _ _
      | exact ih4 _ _ _ _ _ _ _ _ _ _ _
      | exact ih5 _ _ _ _ _ _ _ _ _ _
      | exact ih6 _ _ _ _ _ _ _ _ _ _
      | exact ih7 _ _ _ _ _ _ _ _ _
      | exact haywainlaw12_knows.mono _
      | exact lease_Free.mono _ _ _
      | exact lease_Until.mono _ _ _
      | exact LeO.none _
      | refine LeO.ite ?_ ?_
      | refine LeO.bind ?_ (fun _ => ?_)
    · intro y0 y1 y2 y3 y4 y5 y6 y7 y8 y9
      unfold haywainlaw12_LeaseRenews.j6
      repeat' first
      | (with_reducible exact ih0 _ _ _ _ _)
      | (with_reducible exact ih1 _ _ _ _ _ _ _ _ _)
      | (with_reducible exact ih2 _ _ _ _ _ _ _ _ _ _)
      | (with_reducible exact ih3 _ _ _ _ _ _ _ _ _ _)
      | (with_reducible exact ih4 _ _ _ _ _ _ _ _ _ _ _)
      | (with_reducible exact ih5 _ _ _ _ _ _ _ _ _ _)
      | (with_reducible exact ih6 _ _ _ _ _ _ _ _ _ _)
      | (with_reducible exact ih7 _ _ _ _ _ _ _ _ _)
      | (with_reducible exact haywainlaw12_knows.mono _)
      | (with_reducible exact lease_Free.mono _ _ _)
      | (with_reducible exact lease_Until.mono _ _ _)
      | (with_reducible exact LeO.refl _)
      | (with_reducible exact LeO.none _)
      | (with_reducible refine LeO.ite ?_ ?_)
      | (with_reducible refine LeO.bind ?_ (fun _ => ?_))
      | exact ih0 _ _ _ _ _
      | exact ih1 _ _ _ _ _ _ _ _ _
      | exact ih2 _ _ _ _ _ _ _ _ _ _
      | exact ih3 _ _ _ _ _ _ _ _ _ _
      | exact ih4 _ _ _ _ _ _ _ _ _ _ _
      | exact ih5 _ _ _ _ _ _ _ _ _ _
      | exact ih6 _ _ _ _ _ _ _ _ _ _
      | exact ih7 _ _ _ _ _ _ _ _ _
      | exact haywainlaw12_knows.mono _
      | exact lease_Free.mono _ _ _
      | exact lease_Until.mono _ _ _
      | exact LeO.none _
      | refine LeO.ite ?_ ?_
      | refine LeO.bind ?_ (fun _ => ?_)
    · intro y0 y1 y2 y3 y4 y5 y6 y7 y8
      unfold haywainlaw12_LeaseRenews.j7
      repeat' first
      | (with_reducible exact ih0 _ _ _ _ _)
      | (with_reducible exact ih1 _ _ _ _ _ _ _ _ _)
      | (with_reducible exact ih2 _ _ _ _ _ _ _ _ _ _)
      | (with_reducible exact ih3 _ _ _ _ _ _ _ _ _ _)
      | (with_reducible exact ih4 _ _ _ _ _ _ _ _ _ _ _)
      | (with_reducible exact ih5 _ _ _ _ _ _ _ _ _ _)
      | (with_reducible exact ih6 _ _ _ _ _ _ _ _ _ _)
      | (with_reducible exact ih7 _ _ _ _ _ _ _ _ _)
      | (with_reducible exact haywainlaw12_knows.mono _)
      | (with_reducible exact lease_Free.mono _ _ _)
      | (with_reducible exact lease_Until.mono _ _ _)
      | (with_reducible exact LeO.refl _)
      | (with_reducible exact LeO.none _)
      | (with_reducible refine LeO.ite ?_ ?_)
      | (with_reducible refine LeO.bind ?_ (fun _ => ?_))
      | exact ih0 _ _ _ _ _
      | exact ih1 _ _ _ _ _ _ _ _ _
      | exact ih2 _ _ _ _ _ _ _ _ _ _
      | exact ih3 _ _ _ _ _ _ _ _ _ _
      | exact ih4 _ _ _ _ _ _ _ _ _ _ _
      | exact ih5 _ _ _ _ _ _ _ _ _ _
      | exact ih6 _ _ _ _ _ _ _ _ _ _
      | exact ih7 _ _ _ _ _ _ _ _ _
      | exact haywainlaw12_knows.mono _
      | exact lease_Free.mono _ _ _
      | exact lease_Until.mono _ _ _
      | exact LeO.none _
      | refine LeO.ite ?_ ?_
      | refine LeO.bind ?_ (fun _ => ?_)
theorem haywainlaw12_LeaseRenews.mono : ∀ a0 a1 a2 a3 k, LeO (haywainlaw12_LeaseRenews.f k a0 a1 a2 a3) (haywainlaw12_LeaseRenews.f (k + 1) a0 a1 a2 a3) := by
  intro a0 a1 a2 a3 k
  obtain ⟨ih0, ih1, ih2, ih3, ih4, ih5, ih6, ih7⟩ := haywainlaw12_LeaseRenews.mono_l k
  unfold haywainlaw12_LeaseRenews.f
  repeat' first
      | (with_reducible exact ih0 _ _ _ _ _)
      | (with_reducible exact ih1 _ _ _ _ _ _ _ _ _)
      | (with_reducible exact ih2 _ _ _ _ _ _ _ _ _ _)
      | (with_reducible exact ih3 _ _ _ _ _ _ _ _ _ _)
      | (with_reducible exact ih4 _ _ _ _ _ _ _ _ _ _ _)
      | (with_reducible exact ih5 _ _ _ _ _ _ _ _ _ _)
      | (with_reducible exact ih6 _ _ _ _ _ _ _ _ _ _)
      | (with_reducible exact ih7 _ _ _ _ _ _ _ _ _)
      | (with_reducible exact haywainlaw12_knows.mono _)
      | (with_reducible exact lease_Free.mono _ _ _)
      | (with_reducible exact lease_Until.mono _ _ _)
      | (with_reducible exact LeO.refl _)
      | (with_reducible exact LeO.none _)
      | (with_reducible refine LeO.ite ?_ ?_)
      | (with_reducible refine LeO.bind ?_ (fun _ => ?_))
      | exact ih0 _ _ _ _ _
      | exact ih1 _ _ _ _ _ _ _ _ _
      | exact ih2 _ _ _ _ _ _ _ _ _ _
      | exact ih3 _ _ _ _ _ _ _ _ _ _
      | exact ih4 _ _ _ _ _ _ _ _ _ _ _
      | exact ih5 _ _ _ _ _ _ _ _ _ _
      | exact ih6 _ _ _ _ _ _ _ _ _ _
      | exact ih7 _ _ _ _ _ _ _ _ _
      | exact haywainlaw12_knows.mono _
      | exact lease_Free.mono _ _ _
      | exact lease_Until.mono _ _ _
      | exact LeO.none _
      | refine LeO.ite ?_ ?_
      | refine LeO.bind ?_ (fun _ => ?_)
set_option maxHeartbeats 8000000 in
set_option maxRecDepth 100000 in
theorem haywainlaw12_LeaseRenews.calls (k : Nat) (a0 : Int) (a1 : Int) (a2 : Int) (A3 : Option Addr) (c3 : Nat) (l3 : List Int) (r : Bool) (w : World) (hr3 : Kd.C (Kd.int .u8) w A3 l3.length l3) (hc3 : l3.length ≤ c3) (h : haywainlaw12_LeaseRenews.f k a0 a1 a2 l3 = some r) :
    Calls Try.prog 8 #[.int .i64 a0, .int .i64 a1, .int .i64 a2, .slice A3 l3.length c3] w fun e w' => e = .returned (.bool r) ∧ Below w.heap.size w w' := by
  have HR3 := Aside0.mk hr3
  have HC3 := Aside0.mk hc3
  clear hr3 hc3
  have HB := Aside0.mk (Below.refl w.heap.size w)
  have H : (if a0 < 0 then (haywainlaw12_LeaseRenews.j0 k a0 a1 a2 l3 true) else (if a0 > 1073741824 then (haywainlaw12_LeaseRenews.j0 k a0 a1 a2 l3 true) else (if a1 < 0 then (haywainlaw12_LeaseRenews.j0 k a0 a1 a2 l3 true) else (if a1 > 1073741824 then (haywainlaw12_LeaseRenews.j0 k a0 a1 a2 l3 true) else (if a2 < 1 then (haywainlaw12_LeaseRenews.j0 k a0 a1 a2 l3 true) else (haywainlaw12_LeaseRenews.j0 k a0 a1 a2 l3 (decide (a2 > 30)))))))) = some r := h
  clear h
  have HC5 := Aside0.mk H
  clear H
  go_enter Try.func8, Try.ntmps8
  go_upto_region 1 with (fail)
  go_cut [40] (fun v40 wc => ∃ (kq : Nat) (x40_4 : Bool), v40 = .bool x40_4 ∧ Aside0 (haywainlaw12_LeaseRenews.j0 kq a0 a1 a2 l3 x40_4 = some r) ∧ Aside0 (kq ≤ k) ∧ Aside0 (Below w.heap.size w wc))
  case first =>
    have H := HC5.out
    clear HC5
    by_cases c6 : a0 < 0
    · rw [if_pos c6] at H
      have c6b0 : decide (a0 < 0) = true := decide_eq_true c6
      clear c6
      (first | rw [c6b0] | (simp only [i64_w, i32_w]; rw [c6b0]) | skip)
      have H' := Aside0.mk H
      clear H
      go_wp2
      go_meet
      case rel => exact ⟨_, (true), (by first | rfl | (simp; done) | (simp [*]; done)), H', ⟨by first | omega | exact Nat.le_refl _⟩, ⟨by repeat (first | (with_reducible first | exact HB.out | apply below_alloc | apply pw_below_drewN | apply below_drew1) | exact HB.out)⟩⟩
    · rw [if_neg c6] at H
      have c6b0 : decide (a0 < 0) = false := decide_eq_false c6
      clear c6
      (first | rw [c6b0] | (simp only [i64_w, i32_w]; rw [c6b0]) | skip)
      by_cases c7 : a0 > 1073741824
      · rw [if_pos c7] at H
        have c7b0 : decide (1073741824 < a0) = true := decide_eq_true c7
        clear c7
        have H' := Aside0.mk H
        clear H
        go_wp2
        go_meet
        case rel => exact ⟨_, (true), (by first | rfl | (simp; done) | (simp [*]; done)), H', ⟨by first | omega | exact Nat.le_refl _⟩, ⟨by repeat (first | (with_reducible first | exact HB.out | apply below_alloc | apply pw_below_drewN | apply below_drew1) | exact HB.out)⟩⟩
      · rw [if_neg c7] at H
        have c7b0 : decide (1073741824 < a0) = false := decide_eq_false c7
        clear c7
        by_cases c8 : a1 < 0
        · rw [if_pos c8] at H
          have c8b0 : decide (a1 < 0) = true := decide_eq_true c8
          clear c8
          have H' := Aside0.mk H
          clear H
          go_wp2
          go_meet
          case rel => exact ⟨_, (true), (by first | rfl | (simp; done) | (simp [*]; done)), H', ⟨by first | omega | exact Nat.le_refl _⟩, ⟨by repeat (first | (with_reducible first | exact HB.out | apply below_alloc | apply pw_below_drewN | apply below_drew1) | exact HB.out)⟩⟩
        · rw [if_neg c8] at H
          have c8b0 : decide (a1 < 0) = false := decide_eq_false c8
          clear c8
          by_cases c9 : a1 > 1073741824
          · rw [if_pos c9] at H
            have c9b0 : decide (1073741824 < a1) = true := decide_eq_true c9
            clear c9
            have H' := Aside0.mk H
            clear H
            go_wp2
            go_meet
            case rel => exact ⟨_, (true), (by first | rfl | (simp; done) | (simp [*]; done)), H', ⟨by first | omega | exact Nat.le_refl _⟩, ⟨by repeat (first | (with_reducible first | exact HB.out | apply below_alloc | apply pw_below_drewN | apply below_drew1) | exact HB.out)⟩⟩
          · rw [if_neg c9] at H
            have c9b0 : decide (1073741824 < a1) = false := decide_eq_false c9
            clear c9
            by_cases c10 : a2 < 1
            · rw [if_pos c10] at H
              have c10b0 : decide (a2 < 1) = true := decide_eq_true c10
              clear c10
              have H' := Aside0.mk H
              clear H
              go_wp2
              go_meet
              case rel => exact ⟨_, (true), (by first | rfl | (simp; done) | (simp [*]; done)), H', ⟨by first | omega | exact Nat.le_refl _⟩, ⟨by repeat (first | (with_reducible first | exact HB.out | apply below_alloc | apply pw_below_drewN | apply below_drew1) | exact HB.out)⟩⟩
            · rw [if_neg c10] at H
              have c10b0 : decide (a2 < 1) = false := decide_eq_false c10
              clear c10
              have H' := Aside0.mk H
              clear H
              go_wp2
              go_meet
              case rel => exact ⟨_, (decide (a2 > 30)), (by first | rfl | (simp; done) | (simp [*]; done)), H', ⟨by first | omega | exact Nat.le_refl _⟩, ⟨by repeat (first | (with_reducible first | exact HB.out | apply below_alloc | apply pw_below_drewN | apply below_drew1) | exact HB.out)⟩⟩
  case rest =>
    clear HC5
    try clear c1
    try clear p2
    try clear c3
    try clear c6
    try clear c6b0
    try clear c7
    try clear c7b0
    try clear c8
    try clear c8b0
    try clear c9
    try clear c9b0
    try clear c10
    try clear c10b0
    obtain ⟨kq, x40_4, rfl, HA, HJ4, HB⟩ := hcut
    cases kq with
    | zero => exact absurd HA.out (by simp [haywainlaw12_LeaseRenews.j0])
    | succ kj4 =>
      have H := HA.out
      clear HA
      simp only [haywainlaw12_LeaseRenews.j0] at H
      by_cases c11 : x40_4 = true
      · subst c11
        have H1 : ((haywainlaw12_knows.f kj4).bind fun t124 => (some t124)) = some r := by rw [if_pos rfl] at H; exact H
        clear H
        have H := H1
        clear H1
        replace H := Option.bind_eq_some_iff.mp H
        obtain ⟨t124, A120, H⟩ := H
        replace H : (some t124) = some r := H
        have A12 := Aside0.mk A120
        clear A120
        obtain rfl := Option.some.inj H
        go_wp2_with (first | ((with_reducible refine gate_callee (f := 13) rfl ?_); refine goesL_ (some 41) rfl rfl Try.func13 (by kernel_rfl) rfl #[] rfl (by (try simp only [List.map_toArray, List.map_cons, List.map_nil]); first | done | rfl | (simp only [List.length_drop, List.length_take]; rfl)) ?_; (with_reducible refine (haywainlaw12_knows.calls kj4  t124 _ A12.out).mono ?_); rintro e w13 ⟨rfl, hb⟩; refine ⟨_, rfl, ?_⟩; have n0_ := Aside0.mk (below_step (by repeat (first | (with_reducible first | exact HB.out | apply below_alloc | apply pw_below_drewN | apply below_drew1) | exact HB.out)) hb); clear HB; have HB := n0_; clear n0_; (try clear hb); (try clear hb2); (try clear hk); (try clear hi)))
        go_ret
        exact ⟨by first | rfl | (simp [errW_none, errW_some] <;> rfl) | (simp [*, errW_none, errW_some] <;> rfl), by repeat (first | (with_reducible first | exact HB.out | apply below_alloc | apply pw_below_drewN | apply below_drew1) | exact HB.out)⟩
      · replace c11 := Bool.eq_false_iff.mpr c11
        subst c11
        have H1 : (haywainlaw12_LeaseRenews.l0 kj4 a0 a1 a2 l3 0 0 (-1) (-1) 0) = some r := by rw [if_neg (show ¬ (false = true) by decide)] at H; exact H
        clear H
        have H := H1
        clear H1
        have H' := Aside0.mk H
        clear H
        go_wp2
        go_loopg [0, 1, 9, 10, 11, 12, 13] kj4 (fun kq v0 v1 v9 v10 v11 v12 v13 w' => ∃ (x0_2 : Int) (x1_2 : Int) (x9_2 : Int) (x10_2 : Int) (x11_2 : Int) (x12_2 : Int) (x13_2 : Int), v0 = .int .i64 x0_2 ∧ v1 = .int .i64 x1_2 ∧ v9 = .int .i64 x9_2 ∧ v10 = .int .i64 x10_2 ∧ v11 = .int .i64 x11_2 ∧ v12 = .int .i64 x12_2 ∧ v13 = .int .i64 x13_2 ∧ Aside0 (haywainlaw12_LeaseRenews.l0 kq x0_2 x1_2 a2 l3 x9_2 x10_2 x11_2 x12_2 x13_2 = some r) ∧ Aside0 (kq ≤ kj4) ∧ Aside0 (Below w.heap.size w w'))
        case atStart => exact ⟨(a0), (a1), (0), (0), ((-1)), ((-1)), (0), (by first | rfl | (simp; done) | (simp [*]; done)), (by first | rfl | (simp; done) | (simp [*]; done)), (by first | rfl | (simp; done) | (simp [*]; done)), (by first | rfl | (simp; done) | (simp [*]; done)), (by first | rfl | (simp; done) | (simp [*]; done)), (by first | rfl | (simp; done) | (simp [*]; done)), (by first | rfl | (simp; done) | (simp [*]; done)), H', ⟨Nat.le_refl _⟩, ⟨by repeat (first | (with_reducible first | exact HB.out | apply below_alloc | apply pw_below_drewN | apply below_drew1) | exact HB.out)⟩⟩
        case round =>
          clear H'
          try clear c1
          try clear p2
          try clear c3
          try clear c6
          try clear c6b0
          try clear c7
          try clear c7b0
          try clear c8
          try clear c8b0
          try clear c9
          try clear c9b0
          try clear c10
          try clear c10b0
          try clear c11
          try clear c13
          try clear p2
          obtain ⟨x0_2, x1_2, x9_2, x10_2, x11_2, x12_2, x13_2, rfl, rfl, rfl, rfl, rfl, rfl, rfl, HA, HK2, HB⟩ := hrel
          cases gk with
          | zero => exact absurd HA.out (by simp [haywainlaw12_LeaseRenews.l0])
          | succ k2 =>
            have H := HA.out
            clear HA
            simp only [haywainlaw12_LeaseRenews.l0] at H
            have HC14 := Aside0.mk H
            clear H
            go_upto_region 6 with (fail)
            go_cut [49] (fun v49 wc => ∃ (kq : Nat) (x49_13 : Bool), v49 = .bool x49_13 ∧ Aside0 (haywainlaw12_LeaseRenews.j2 kq x0_2 x1_2 a2 l3 x9_2 x10_2 x11_2 x12_2 x13_2 x49_13 = some r) ∧ Aside0 (kq ≤ k2) ∧ Aside0 (Below w.heap.size w wc))
            case first =>
              have H := HC14.out
              clear HC14
              by_cases c15 : x13_2 < (l3.length : Int)
              · rw [if_pos c15] at H
                have c15b0 : decide (x13_2 < (l3.length : Int)) = true := decide_eq_true c15
                clear c15
                (first | rw [c15b0] | (simp only [i64_w, i32_w]; rw [c15b0]) | skip)
                have H' := Aside0.mk H
                clear H
                go_wp2
                go_meet
                case rel => exact ⟨_, (decide (x13_2 < 100)), (by first | rfl | (simp; done) | (simp [*]; done)), H', ⟨by have := HJ4.out; have := HK2.out; first | omega | exact Nat.le_refl _⟩, ⟨by repeat (first | (with_reducible first | exact HB.out | apply below_alloc | apply pw_below_drewN | apply below_drew1) | exact HB.out)⟩⟩
              · rw [if_neg c15] at H
                have c15b0 : decide (x13_2 < (l3.length : Int)) = false := decide_eq_false c15
                clear c15
                (first | rw [c15b0] | (simp only [i64_w, i32_w]; rw [c15b0]) | skip)
                have H' := Aside0.mk H
                clear H
                go_wp2
                go_meet
                case rel => exact ⟨_, (false), (by first | rfl | (simp; done) | (simp [*]; done)), H', ⟨by have := HJ4.out; have := HK2.out; first | omega | exact Nat.le_refl _⟩, ⟨by repeat (first | (with_reducible first | exact HB.out | apply below_alloc | apply pw_below_drewN | apply below_drew1) | exact HB.out)⟩⟩
            case rest =>
              clear HC14
              try clear c1
              try clear p2
              try clear c3
              try clear c6
              try clear c6b0
              try clear c7
              try clear c7b0
              try clear c8
              try clear c8b0
              try clear c9
              try clear c9b0
              try clear c10
              try clear c10b0
              try clear c11
              try clear c13
              try clear c15
              try clear c15b0
              try clear p2
              obtain ⟨kq, x49_13, rfl, HA, HJ13, HB⟩ := hcut
              cases kq with
              | zero => exact absurd HA.out (by simp [haywainlaw12_LeaseRenews.j2])
              | succ kj13 =>
                have H := HA.out
                clear HA
                simp only [haywainlaw12_LeaseRenews.j2] at H
                by_cases c16 : x49_13 = true
                · subst c16
                  have H1 : (if 0 ≤ x13_2 then (if x13_2 < (l3.length : Int) then (if (Int.tmod (wrap64 (Int.tdiv (wrap64 (rd l3 x13_2)) 9)) 4) = 0 then (haywainlaw12_LeaseRenews.j3 kj13 (wrap64 ((wrap64 (x0_2 + 7)) + (Int.tmod (wrap64 (rd l3 x13_2)) 3))) (wrap64 ((wrap64 (x1_2 + 7)) + (Int.tmod (wrap64 (Int.tdiv (wrap64 (rd l3 x13_2)) 3)) 3))) a2 l3 x9_2 x10_2 (wrap64 ((wrap64 (x0_2 + 7)) + (Int.tmod (wrap64 (rd l3 x13_2)) 3))) x12_2 x13_2 (wrap64 (rd l3 x13_2))) else (haywainlaw12_LeaseRenews.j3 kj13 (wrap64 ((wrap64 (x0_2 + 7)) + (Int.tmod (wrap64 (rd l3 x13_2)) 3))) (wrap64 ((wrap64 (x1_2 + 7)) + (Int.tmod (wrap64 (Int.tdiv (wrap64 (rd l3 x13_2)) 3)) 3))) a2 l3 x9_2 x10_2 x11_2 x12_2 x13_2 (wrap64 (rd l3 x13_2)))) else (none)) else (none)) = some r := by rw [if_pos rfl] at H; exact H
                  clear H
                  have H := H1
                  clear H1
                  by_cases c17 : 0 ≤ x13_2
                  · rw [if_pos c17] at H
                    have c17b0 : decide (0 ≤ x13_2) = true := decide_eq_true c17
                    clear c17
                    by_cases c18 : x13_2 < (l3.length : Int)
                    · rw [if_pos c18] at H
                      have c18b0 : decide (x13_2 < (l3.length : Int)) = true := decide_eq_true c18
                      clear c18
                      have HC19 := Aside0.mk H
                      clear H
                      have p126 : 0 ≤ (x13_2 : Int) := of_decide_eq_true (by first | (with_reducible assumption) | assumption)
                      have q126 : x13_2 < (l3.length : Int) := of_decide_eq_true (by first | (with_reducible assumption) | assumption)
                      obtain ⟨ad126, e126, hx126_0⟩ := Kd.at_int HR3.out x13_2 p126 q126
                      cases e126
                      replace hx126_0 := (HB.out.cell (World.block_lt_of_cell? w _ hx126_0)).trans hx126_0
                      replace p126 := eq_true p126
                      replace q126 := eq_true q126
                      go_upto_if 71 with (fail)
                      go_cut [11] (fun v11 wc => ∃ (kq : Nat) (x11_18 : Int), v11 = .int .i64 x11_18 ∧ Aside0 (haywainlaw12_LeaseRenews.j3 kq (wrap64 ((wrap64 (x0_2 + 7)) + (Int.tmod (wrap64 (rd l3 x13_2)) 3))) (wrap64 ((wrap64 (x1_2 + 7)) + (Int.tmod (wrap64 (Int.tdiv (wrap64 (rd l3 x13_2)) 3)) 3))) a2 l3 x9_2 x10_2 x11_18 x12_2 x13_2 (wrap64 (rd l3 x13_2)) = some r) ∧ Aside0 (kq ≤ kj13) ∧ Aside0 (Below w.heap.size w wc))
                      case first =>
                        have H := HC19.out
                        clear HC19
                        by_cases c20 : (Int.tmod (wrap64 (Int.tdiv (wrap64 (rd l3 x13_2)) 9)) 4) = 0
                        · rw [if_pos c20] at H
                          have c20b0 : ((Int.tmod (wrap64 (Int.tdiv (wrap64 (rd l3 x13_2)) 9)) 4) == 0) = true := beq_iff_eq.mpr c20
                          have c20b1 : ((Int.tmod (wrap64 (Int.tdiv (wrap64 (rd l3 x13_2)) 9)) 4) != 0) = false := bne_eq_false_iff_eq.mpr c20
                          clear c20
                          (first | rw [c20b0] | (simp only [i64_w, i32_w]; rw [c20b0]) | skip)
                          have H' := Aside0.mk H
                          clear H
                          go_wp2
                          go_meet
                          case rel => exact ⟨_, (wrap64 ((wrap64 (x0_2 + 7)) + (Int.tmod (wrap64 (rd l3 x13_2)) 3))), (by first | rfl | (simp; done) | (simp [*]; done)), H', ⟨by have := HJ4.out; have := HK2.out; have := HJ13.out; first | omega | exact Nat.le_refl _⟩, ⟨by repeat (first | (with_reducible first | exact HB.out | apply below_alloc | apply pw_below_drewN | apply below_drew1) | exact HB.out)⟩⟩
                        · rw [if_neg c20] at H
                          have c20b0 : ((Int.tmod (wrap64 (Int.tdiv (wrap64 (rd l3 x13_2)) 9)) 4) == 0) = false := beq_eq_false_iff_ne.mpr c20
                          have c20b1 : ((Int.tmod (wrap64 (Int.tdiv (wrap64 (rd l3 x13_2)) 9)) 4) != 0) = true := bne_iff_ne.mpr c20
                          (first | rw [c20b0] | (simp only [i64_w, i32_w]; rw [c20b0]) | skip)
                          have H' := Aside0.mk H
                          clear H
                          go_wp2
                          go_meet
                          case rel => exact ⟨_, (x11_2), (by first | rfl | (simp; done) | (simp [*]; done)), H', ⟨by have := HJ4.out; have := HK2.out; have := HJ13.out; first | omega | exact Nat.le_refl _⟩, ⟨by repeat (first | (with_reducible first | exact HB.out | apply below_alloc | apply pw_below_drewN | apply below_drew1) | exact HB.out)⟩⟩
                      case rest =>
                        clear HC19
                        try clear c1
                        try clear p1
                        try clear q1
                        try clear hx1
                        try clear c2
                        try clear p2
                        try clear c3
                        try clear c6
                        try clear c6b0
                        try clear p6
                        try clear c7
                        try clear c7b0
                        try clear c8
                        try clear c8b0
                        try clear c9
                        try clear c9b0
                        try clear c10
                        try clear c10b0
                        try clear c11
                        try clear p12
                        try clear q12
                        try clear hx12
                        try clear c13
                        try clear c15
                        try clear c15b0
                        try clear c16
                        try clear c17
                        try clear c17b0
                        try clear c18
                        try clear c18b0
                        try clear c20
                        try clear c20b0
                        try clear c20b1
                        try clear hx126_0
                        try clear p126
                        try clear p2
                        try clear q126
                        obtain ⟨kq, x11_18, rfl, HA, HJ18, HB⟩ := hcut
                        cases kq with
                        | zero => exact absurd HA.out (by simp [haywainlaw12_LeaseRenews.j3])
                        | succ kj18 =>
                          have H := HA.out
                          clear HA
                          simp only [haywainlaw12_LeaseRenews.j3] at H
                          have HC21 := Aside0.mk H
                          clear H
                          go_upto_region 13 with (fail)
                          go_cut [80] (fun v80 wc => ∃ (kq : Nat) (x80_20 : Bool), v80 = .bool x80_20 ∧ Aside0 (haywainlaw12_LeaseRenews.j4 kq (wrap64 ((wrap64 (x0_2 + 7)) + (Int.tmod (wrap64 (rd l3 x13_2)) 3))) (wrap64 ((wrap64 (x1_2 + 7)) + (Int.tmod (wrap64 (Int.tdiv (wrap64 (rd l3 x13_2)) 3)) 3))) a2 l3 x9_2 x10_2 x11_18 x12_2 x13_2 (wrap64 (rd l3 x13_2)) x80_20 = some r) ∧ Aside0 (kq ≤ kj18) ∧ Aside0 (Below w.heap.size w wc))
                          case first =>
                            have H := HC21.out
                            clear HC21
                            by_cases c22 : (Int.tmod (wrap64 (Int.tdiv (wrap64 (rd l3 x13_2)) 36)) 3) = 0
                            · rw [if_pos c22] at H
                              have c22b0 : ((Int.tmod (wrap64 (Int.tdiv (wrap64 (rd l3 x13_2)) 36)) 3) == 0) = true := beq_iff_eq.mpr c22
                              have c22b1 : ((Int.tmod (wrap64 (Int.tdiv (wrap64 (rd l3 x13_2)) 36)) 3) != 0) = false := bne_eq_false_iff_eq.mpr c22
                              clear c22
                              (first | rw [c22b0] | (simp only [i64_w, i32_w]; rw [c22b0]) | skip)
                              have H' := Aside0.mk H
                              clear H
                              go_wp2
                              go_meet
                              case rel => exact ⟨_, (decide (x11_18 ≥ 0)), (by first | rfl | (simp; done) | (simp [*]; done)), H', ⟨by have := HJ4.out; have := HK2.out; have := HJ13.out; have := HJ18.out; first | omega | exact Nat.le_refl _⟩, ⟨by repeat (first | (with_reducible first | exact HB.out | apply below_alloc | apply pw_below_drewN | apply below_drew1) | exact HB.out)⟩⟩
                            · rw [if_neg c22] at H
                              have c22b0 : ((Int.tmod (wrap64 (Int.tdiv (wrap64 (rd l3 x13_2)) 36)) 3) == 0) = false := beq_eq_false_iff_ne.mpr c22
                              have c22b1 : ((Int.tmod (wrap64 (Int.tdiv (wrap64 (rd l3 x13_2)) 36)) 3) != 0) = true := bne_iff_ne.mpr c22
                              (first | rw [c22b0] | (simp only [i64_w, i32_w]; rw [c22b0]) | skip)
                              have H' := Aside0.mk H
                              clear H
                              go_wp2
                              go_meet
                              case rel => exact ⟨_, (false), (by first | rfl | (simp; done) | (simp [*]; done)), H', ⟨by have := HJ4.out; have := HK2.out; have := HJ13.out; have := HJ18.out; first | omega | exact Nat.le_refl _⟩, ⟨by repeat (first | (with_reducible first | exact HB.out | apply below_alloc | apply pw_below_drewN | apply below_drew1) | exact HB.out)⟩⟩
                          case rest =>
                            clear HC21
                            try clear c1
                            try clear p1
                            try clear q1
                            try clear hx1
                            try clear c2
                            try clear p2
                            try clear c3
                            try clear c6
                            try clear c6b0
                            try clear p6
                            try clear c7
                            try clear c7b0
                            try clear c8
                            try clear c8b0
                            try clear c9
                            try clear c9b0
                            try clear c10
                            try clear c10b0
                            try clear c11
                            try clear p12
                            try clear q12
                            try clear hx12
                            try clear c13
                            try clear c15
                            try clear c15b0
                            try clear c16
                            try clear c17
                            try clear c17b0
                            try clear c18
                            try clear c18b0
                            try clear c20
                            try clear c20b0
                            try clear c20b1
                            try clear c22
                            try clear c22b0
                            try clear c22b1
                            try clear hx126_0
                            try clear p1
                            try clear p12
                            try clear p126
                            try clear p2
                            try clear p6
                            try clear q1
                            try clear q12
                            try clear q126
                            obtain ⟨kq, x80_20, rfl, HA, HJ20, HB⟩ := hcut
                            cases kq with
                            | zero => exact absurd HA.out (by simp [haywainlaw12_LeaseRenews.j4])
                            | succ kj20 =>
                              have H := HA.out
                              clear HA
                              simp only [haywainlaw12_LeaseRenews.j4] at H
                              have HC23 := Aside0.mk H
                              clear H
                              go_upto_if 80 with (fail)
                              go_cut [10, 12] (fun v10 v12 wc => ∃ (kq : Nat) (x10_22 : Int) (x12_22 : Int), v10 = .int .i64 x10_22 ∧ v12 = .int .i64 x12_22 ∧ Aside0 (haywainlaw12_LeaseRenews.j5 kq (wrap64 ((wrap64 (x0_2 + 7)) + (Int.tmod (wrap64 (rd l3 x13_2)) 3))) (wrap64 ((wrap64 (x1_2 + 7)) + (Int.tmod (wrap64 (Int.tdiv (wrap64 (rd l3 x13_2)) 3)) 3))) a2 l3 x9_2 x10_22 x11_18 x12_22 x13_2 (wrap64 (rd l3 x13_2)) = some r) ∧ Aside0 (kq ≤ kj20) ∧ Aside0 (Below w.heap.size w wc))
                              case first =>
                                have H := HC23.out
                                clear HC23
                                by_cases c24 : x80_20 = true
                                · subst c24
                                  have H1 : ((lease_Free.f kj20 (wrap64 ((wrap64 (x1_2 + 7)) + (Int.tmod (wrap64 (Int.tdiv (wrap64 (rd l3 x13_2)) 3)) 3))) a2).bind fun bt127 => (if bt127.2 = 0 then (haywainlaw12_LeaseRenews.j5 kj20 (wrap64 ((wrap64 (x0_2 + 7)) + (Int.tmod (wrap64 (rd l3 x13_2)) 3))) (wrap64 ((wrap64 (x1_2 + 7)) + (Int.tmod (wrap64 (Int.tdiv (wrap64 (rd l3 x13_2)) 3)) 3))) a2 l3 x9_2 bt127.1 x11_18 x11_18 x13_2 (wrap64 (rd l3 x13_2))) else (some false))) = some r := by rw [if_pos rfl] at H; exact H
                                  clear H
                                  have H := H1
                                  clear H1
                                  replace H := Option.bind_eq_some_iff.mp H
                                  obtain ⟨⟨t127, t128⟩, A250, H⟩ := H
                                  replace H : (if t128 = 0 then (haywainlaw12_LeaseRenews.j5 kj20 (wrap64 ((wrap64 (x0_2 + 7)) + (Int.tmod (wrap64 (rd l3 x13_2)) 3))) (wrap64 ((wrap64 (x1_2 + 7)) + (Int.tmod (wrap64 (Int.tdiv (wrap64 (rd l3 x13_2)) 3)) 3))) a2 l3 x9_2 t127 x11_18 x11_18 x13_2 (wrap64 (rd l3 x13_2))) else (some false)) = some r := H
                                  have A25 := Aside0.mk A250
                                  clear A250
                                  by_cases c26 : t128 = 0
                                  · rw [if_pos c26] at H
                                    have c26b0 : (t128 == 0) = true := beq_iff_eq.mpr c26
                                    have c26b1 : (t128 != 0) = false := bne_eq_false_iff_eq.mpr c26
                                    clear c26
                                    (first | rw [c26b0] | (simp only [i64_w, i32_w]; rw [c26b0]) | skip)
                                    have H' := Aside0.mk H
                                    clear H
                                    go_wp2_with (first | ((with_reducible refine gate_callee (f := 11) rfl ?_); refine goesL_ (some 84) rfl rfl Try.func11 (by kernel_rfl) rfl #[.int .i64 (wrap64 ((wrap64 (x1_2 + 7)) + (Int.tmod (wrap64 (Int.tdiv (wrap64 (rd l3 x13_2)) 3)) 3))), .int .i64 a2] rfl (by (try simp only [List.map_toArray, List.map_cons, List.map_nil]); first | done | rfl | (simp only [List.length_drop, List.length_take]; rfl)) ?_; (with_reducible refine (lease_Free.calls kj20 (wrap64 ((wrap64 (x1_2 + 7)) + (Int.tmod (wrap64 (Int.tdiv (wrap64 (rd l3 x13_2)) 3)) 3))) a2 t127 t128 _ A25.out).mono ?_); rintro e w27 ⟨rfl, hb⟩; refine ⟨_, rfl, ?_⟩; have n0_ := Aside0.mk (below_step (by repeat (first | (with_reducible first | exact HB.out | apply below_alloc | apply pw_below_drewN | apply below_drew1) | exact HB.out)) hb); clear HB; have HB := n0_; clear n0_; (try clear hb); (try clear hb2); (try clear hk); (try clear hi)))
                                    go_meet
                                    case rel => exact ⟨_, (t127), (x11_18), (by first | rfl | (simp; done) | (simp [*]; done)), (by first | rfl | (simp; done) | (simp [*]; done)), H', ⟨by have := HJ4.out; have := HK2.out; have := HJ13.out; have := HJ18.out; have := HJ20.out; first | omega | exact Nat.le_refl _⟩, ⟨by repeat (first | (with_reducible first | exact HB.out | apply below_alloc | apply pw_below_drewN | apply below_drew1) | exact HB.out)⟩⟩
                                  · rw [if_neg c26] at H
                                    have c26b0 : (t128 == 0) = false := beq_eq_false_iff_ne.mpr c26
                                    have c26b1 : (t128 != 0) = true := bne_iff_ne.mpr c26
                                    (first | rw [c26b0] | (simp only [i64_w, i32_w]; rw [c26b0]) | skip)
                                    obtain rfl := Option.some.inj H
                                    go_wp2_with (first | ((with_reducible refine gate_callee (f := 11) rfl ?_); refine goesL_ (some 84) rfl rfl Try.func11 (by kernel_rfl) rfl #[.int .i64 (wrap64 ((wrap64 (x1_2 + 7)) + (Int.tmod (wrap64 (Int.tdiv (wrap64 (rd l3 x13_2)) 3)) 3))), .int .i64 a2] rfl (by (try simp only [List.map_toArray, List.map_cons, List.map_nil]); first | done | rfl | (simp only [List.length_drop, List.length_take]; rfl)) ?_; (with_reducible refine (lease_Free.calls kj20 (wrap64 ((wrap64 (x1_2 + 7)) + (Int.tmod (wrap64 (Int.tdiv (wrap64 (rd l3 x13_2)) 3)) 3))) a2 t127 t128 _ A25.out).mono ?_); rintro e w28 ⟨rfl, hb⟩; refine ⟨_, rfl, ?_⟩; have n0_ := Aside0.mk (below_step (by repeat (first | (with_reducible first | exact HB.out | apply below_alloc | apply pw_below_drewN | apply below_drew1) | exact HB.out)) hb); clear HB; have HB := n0_; clear n0_; (try clear hb); (try clear hb2); (try clear hk); (try clear hi)))
                                    go_ret
                                    exact ⟨by first | rfl | (simp [errW_none, errW_some] <;> rfl) | (simp [*, errW_none, errW_some] <;> rfl), by repeat (first | (with_reducible first | exact HB.out | apply below_alloc | apply pw_below_drewN | apply below_drew1) | exact HB.out)⟩
                                · replace c24 := Bool.eq_false_iff.mpr c24
                                  subst c24
                                  have H1 : (haywainlaw12_LeaseRenews.j5 kj20 (wrap64 ((wrap64 (x0_2 + 7)) + (Int.tmod (wrap64 (rd l3 x13_2)) 3))) (wrap64 ((wrap64 (x1_2 + 7)) + (Int.tmod (wrap64 (Int.tdiv (wrap64 (rd l3 x13_2)) 3)) 3))) a2 l3 x9_2 x10_2 x11_18 x12_2 x13_2 (wrap64 (rd l3 x13_2))) = some r := by rw [if_neg (show ¬ (false = true) by decide)] at H; exact H
                                  clear H
                                  have H := H1
                                  clear H1
                                  have H' := Aside0.mk H
                                  clear H
                                  go_wp2
                                  go_meet
                                  case rel => exact ⟨_, (x10_2), (x12_2), (by first | rfl | (simp; done) | (simp [*]; done)), (by first | rfl | (simp; done) | (simp [*]; done)), H', ⟨by have := HJ4.out; have := HK2.out; have := HJ13.out; have := HJ18.out; have := HJ20.out; first | omega | exact Nat.le_refl _⟩, ⟨by repeat (first | (with_reducible first | exact HB.out | apply below_alloc | apply pw_below_drewN | apply below_drew1) | exact HB.out)⟩⟩
                              case rest =>
                                clear HC23
                                try clear c1
                                try clear p1
                                try clear q1
                                try clear hx1
                                try clear c2
                                try clear p2
                                try clear c3
                                try clear c6
                                try clear c6b0
                                try clear p6
                                try clear c7
                                try clear c7b0
                                try clear c8
                                try clear c8b0
                                try clear c9
                                try clear c9b0
                                try clear c10
                                try clear c10b0
                                try clear c11
                                try clear p12
                                try clear q12
                                try clear hx12
                                try clear c13
                                try clear c15
                                try clear c15b0
                                try clear c16
                                try clear c17
                                try clear c17b0
                                try clear c18
                                try clear c18b0
                                try clear c20
                                try clear c20b0
                                try clear c20b1
                                try clear c22
                                try clear c22b0
                                try clear c22b1
                                try clear c24
                                try clear c26
                                try clear c26b0
                                try clear c26b1
                                try clear hx126_0
                                try clear p1
                                try clear p12
                                try clear p126
                                try clear p2
                                try clear p6
                                try clear q1
                                try clear q12
                                try clear q126
                                obtain ⟨kq, x10_22, x12_22, rfl, rfl, HA, HJ22, HB⟩ := hcut
                                cases kq with
                                | zero => exact absurd HA.out (by simp [haywainlaw12_LeaseRenews.j5])
                                | succ kj22 =>
                                  have H := HA.out
                                  clear HA
                                  simp only [haywainlaw12_LeaseRenews.j5] at H
                                  have HC29 := Aside0.mk H
                                  clear H
                                  go_upto_region 18 with (fail)
                                  go_cut [97] (fun v97 wc => ∃ (kq : Nat) (x97_28 : Bool), v97 = .bool x97_28 ∧ Aside0 (haywainlaw12_LeaseRenews.j6 kq (wrap64 ((wrap64 (x0_2 + 7)) + (Int.tmod (wrap64 (rd l3 x13_2)) 3))) (wrap64 ((wrap64 (x1_2 + 7)) + (Int.tmod (wrap64 (Int.tdiv (wrap64 (rd l3 x13_2)) 3)) 3))) a2 l3 x9_2 x10_22 x11_18 x12_22 x13_2 x97_28 = some r) ∧ Aside0 (kq ≤ kj22) ∧ Aside0 (Below w.heap.size w wc))
                                  case first =>
                                    have H := HC29.out
                                    clear HC29
                                    by_cases c30 : (wrap64 (Int.tdiv (wrap64 (rd l3 x13_2)) 108)) = 0
                                    · rw [if_pos c30] at H
                                      have c30b0 : ((wrap64 (Int.tdiv (wrap64 (rd l3 x13_2)) 108)) == 0) = true := beq_iff_eq.mpr c30
                                      have c30b1 : ((wrap64 (Int.tdiv (wrap64 (rd l3 x13_2)) 108)) != 0) = false := bne_eq_false_iff_eq.mpr c30
                                      clear c30
                                      (first | rw [c30b0] | (simp only [i64_w, i32_w]; rw [c30b0]) | skip)
                                      have H' := Aside0.mk H
                                      clear H
                                      go_wp2
                                      go_meet
                                      case rel => exact ⟨_, (decide (x12_22 ≥ 0)), (by first | rfl | (simp; done) | (simp [*]; done)), H', ⟨by have := HJ4.out; have := HK2.out; have := HJ13.out; have := HJ18.out; have := HJ20.out; have := HJ22.out; first | omega | exact Nat.le_refl _⟩, ⟨by repeat (first | (with_reducible first | exact HB.out | apply below_alloc | apply pw_below_drewN | apply below_drew1) | exact HB.out)⟩⟩
                                    · rw [if_neg c30] at H
                                      have c30b0 : ((wrap64 (Int.tdiv (wrap64 (rd l3 x13_2)) 108)) == 0) = false := beq_eq_false_iff_ne.mpr c30
                                      have c30b1 : ((wrap64 (Int.tdiv (wrap64 (rd l3 x13_2)) 108)) != 0) = true := bne_iff_ne.mpr c30
                                      (first | rw [c30b0] | (simp only [i64_w, i32_w]; rw [c30b0]) | skip)
                                      have H' := Aside0.mk H
                                      clear H
                                      go_wp2
                                      go_meet
                                      case rel => exact ⟨_, (false), (by first | rfl | (simp; done) | (simp [*]; done)), H', ⟨by have := HJ4.out; have := HK2.out; have := HJ13.out; have := HJ18.out; have := HJ20.out; have := HJ22.out; first | omega | exact Nat.le_refl _⟩, ⟨by repeat (first | (with_reducible first | exact HB.out | apply below_alloc | apply pw_below_drewN | apply below_drew1) | exact HB.out)⟩⟩
                                  case rest =>
                                    clear HC29
                                    try clear c1
                                    try clear p1
                                    try clear q1
                                    try clear hx1
                                    try clear c2
                                    try clear p2
                                    try clear c3
                                    try clear c6
                                    try clear c6b0
                                    try clear p6
                                    try clear c7
                                    try clear c7b0
                                    try clear c8
                                    try clear c8b0
                                    try clear c9
                                    try clear c9b0
                                    try clear c10
                                    try clear c10b0
                                    try clear c11
                                    try clear p12
                                    try clear q12
                                    try clear hx12
                                    try clear c13
                                    try clear c15
                                    try clear c15b0
                                    try clear c16
                                    try clear c17
                                    try clear c17b0
                                    try clear c18
                                    try clear c18b0
                                    try clear c20
                                    try clear c20b0
                                    try clear c20b1
                                    try clear c22
                                    try clear c22b0
                                    try clear c22b1
                                    try clear c24
                                    try clear c26
                                    try clear c26b0
                                    try clear c26b1
                                    try clear c30
                                    try clear c30b0
                                    try clear c30b1
                                    try clear hx126_0
                                    try clear p1
                                    try clear p12
                                    try clear p126
                                    try clear p2
                                    try clear p6
                                    try clear q1
                                    try clear q12
                                    try clear q126
                                    obtain ⟨kq, x97_28, rfl, HA, HJ28, HB⟩ := hcut
                                    cases kq with
                                    | zero => exact absurd HA.out (by simp [haywainlaw12_LeaseRenews.j6])
                                    | succ kj28 =>
                                      have H := HA.out
                                      clear HA
                                      simp only [haywainlaw12_LeaseRenews.j6] at H
                                      have HC31 := Aside0.mk H
                                      clear H
                                      go_upto_if 97 with (fail)
                                      go_cut [9] (fun v9 wc => ∃ (kq : Nat) (x9_30 : Int), v9 = .int .i64 x9_30 ∧ Aside0 (haywainlaw12_LeaseRenews.j7 kq (wrap64 ((wrap64 (x0_2 + 7)) + (Int.tmod (wrap64 (rd l3 x13_2)) 3))) (wrap64 ((wrap64 (x1_2 + 7)) + (Int.tmod (wrap64 (Int.tdiv (wrap64 (rd l3 x13_2)) 3)) 3))) a2 l3 x9_30 x10_22 x11_18 x12_22 x13_2 = some r) ∧ Aside0 (kq ≤ kj28) ∧ Aside0 (Below w.heap.size w wc))
                                      case first =>
                                        have H := HC31.out
                                        clear HC31
                                        by_cases c32 : x97_28 = true
                                        · subst c32
                                          have H1 : ((lease_Until.f kj28 x12_22 a2).bind fun bt129 => (if bt129.2 = 0 then (if bt129.1 > x9_2 then (haywainlaw12_LeaseRenews.j7 kj28 (wrap64 ((wrap64 (x0_2 + 7)) + (Int.tmod (wrap64 (rd l3 x13_2)) 3))) (wrap64 ((wrap64 (x1_2 + 7)) + (Int.tmod (wrap64 (Int.tdiv (wrap64 (rd l3 x13_2)) 3)) 3))) a2 l3 bt129.1 x10_22 x11_18 x12_22 x13_2) else (haywainlaw12_LeaseRenews.j7 kj28 (wrap64 ((wrap64 (x0_2 + 7)) + (Int.tmod (wrap64 (rd l3 x13_2)) 3))) (wrap64 ((wrap64 (x1_2 + 7)) + (Int.tmod (wrap64 (Int.tdiv (wrap64 (rd l3 x13_2)) 3)) 3))) a2 l3 x9_2 x10_22 x11_18 x12_22 x13_2)) else (some false))) = some r := by rw [if_pos rfl] at H; exact H
                                          clear H
                                          have H := H1
                                          clear H1
                                          replace H := Option.bind_eq_some_iff.mp H
                                          obtain ⟨⟨t129, t130⟩, A330, H⟩ := H
                                          replace H : (if t130 = 0 then (if t129 > x9_2 then (haywainlaw12_LeaseRenews.j7 kj28 (wrap64 ((wrap64 (x0_2 + 7)) + (Int.tmod (wrap64 (rd l3 x13_2)) 3))) (wrap64 ((wrap64 (x1_2 + 7)) + (Int.tmod (wrap64 (Int.tdiv (wrap64 (rd l3 x13_2)) 3)) 3))) a2 l3 t129 x10_22 x11_18 x12_22 x13_2) else (haywainlaw12_LeaseRenews.j7 kj28 (wrap64 ((wrap64 (x0_2 + 7)) + (Int.tmod (wrap64 (rd l3 x13_2)) 3))) (wrap64 ((wrap64 (x1_2 + 7)) + (Int.tmod (wrap64 (Int.tdiv (wrap64 (rd l3 x13_2)) 3)) 3))) a2 l3 x9_2 x10_22 x11_18 x12_22 x13_2)) else (some false)) = some r := H
                                          have A33 := Aside0.mk A330
                                          clear A330
                                          by_cases c34 : t130 = 0
                                          · rw [if_pos c34] at H
                                            have c34b0 : (t130 == 0) = true := beq_iff_eq.mpr c34
                                            have c34b1 : (t130 != 0) = false := bne_eq_false_iff_eq.mpr c34
                                            clear c34
                                            (first | rw [c34b0] | (simp only [i64_w, i32_w]; rw [c34b0]) | skip)
                                            by_cases c35 : t129 > x9_2
                                            · rw [if_pos c35] at H
                                              have c35b0 : decide (x9_2 < t129) = true := decide_eq_true c35
                                              clear c35
                                              have H' := Aside0.mk H
                                              clear H
                                              go_wp2_with (first | ((with_reducible refine gate_callee (f := 9) rfl ?_); refine goesL_ (some 101) rfl rfl Try.func9 (by kernel_rfl) rfl #[.int .i64 x12_22, .int .i64 a2] rfl (by (try simp only [List.map_toArray, List.map_cons, List.map_nil]); first | done | rfl | (simp only [List.length_drop, List.length_take]; rfl)) ?_; (with_reducible refine (lease_Until.calls kj28 x12_22 a2 t129 t130 _ A33.out).mono ?_); rintro e w36 ⟨rfl, hb⟩; refine ⟨_, rfl, ?_⟩; have n0_ := Aside0.mk (below_step (by repeat (first | (with_reducible first | exact HB.out | apply below_alloc | apply pw_below_drewN | apply below_drew1) | exact HB.out)) hb); clear HB; have HB := n0_; clear n0_; (try clear hb); (try clear hb2); (try clear hk); (try clear hi)))
                                              go_meet
                                              case rel => exact ⟨_, (t129), (by first | rfl | (simp; done) | (simp [*]; done)), H', ⟨by have := HJ4.out; have := HK2.out; have := HJ13.out; have := HJ18.out; have := HJ20.out; have := HJ22.out; have := HJ28.out; first | omega | exact Nat.le_refl _⟩, ⟨by repeat (first | (with_reducible first | exact HB.out | apply below_alloc | apply pw_below_drewN | apply below_drew1) | exact HB.out)⟩⟩
                                            · rw [if_neg c35] at H
                                              have c35b0 : decide (x9_2 < t129) = false := decide_eq_false c35
                                              clear c35
                                              have H' := Aside0.mk H
                                              clear H
                                              go_wp2_with (first | ((with_reducible refine gate_callee (f := 9) rfl ?_); refine goesL_ (some 101) rfl rfl Try.func9 (by kernel_rfl) rfl #[.int .i64 x12_22, .int .i64 a2] rfl (by (try simp only [List.map_toArray, List.map_cons, List.map_nil]); first | done | rfl | (simp only [List.length_drop, List.length_take]; rfl)) ?_; (with_reducible refine (lease_Until.calls kj28 x12_22 a2 t129 t130 _ A33.out).mono ?_); rintro e w37 ⟨rfl, hb⟩; refine ⟨_, rfl, ?_⟩; have n0_ := Aside0.mk (below_step (by repeat (first | (with_reducible first | exact HB.out | apply below_alloc | apply pw_below_drewN | apply below_drew1) | exact HB.out)) hb); clear HB; have HB := n0_; clear n0_; (try clear hb); (try clear hb2); (try clear hk); (try clear hi)))
                                              go_meet
                                              case rel => exact ⟨_, (x9_2), (by first | rfl | (simp; done) | (simp [*]; done)), H', ⟨by have := HJ4.out; have := HK2.out; have := HJ13.out; have := HJ18.out; have := HJ20.out; have := HJ22.out; have := HJ28.out; first | omega | exact Nat.le_refl _⟩, ⟨by repeat (first | (with_reducible first | exact HB.out | apply below_alloc | apply pw_below_drewN | apply below_drew1) | exact HB.out)⟩⟩
                                          · rw [if_neg c34] at H
                                            have c34b0 : (t130 == 0) = false := beq_eq_false_iff_ne.mpr c34
                                            have c34b1 : (t130 != 0) = true := bne_iff_ne.mpr c34
                                            (first | rw [c34b0] | (simp only [i64_w, i32_w]; rw [c34b0]) | skip)
                                            obtain rfl := Option.some.inj H
                                            go_wp2_with (first | ((with_reducible refine gate_callee (f := 9) rfl ?_); refine goesL_ (some 101) rfl rfl Try.func9 (by kernel_rfl) rfl #[.int .i64 x12_22, .int .i64 a2] rfl (by (try simp only [List.map_toArray, List.map_cons, List.map_nil]); first | done | rfl | (simp only [List.length_drop, List.length_take]; rfl)) ?_; (with_reducible refine (lease_Until.calls kj28 x12_22 a2 t129 t130 _ A33.out).mono ?_); rintro e w38 ⟨rfl, hb⟩; refine ⟨_, rfl, ?_⟩; have n0_ := Aside0.mk (below_step (by repeat (first | (with_reducible first | exact HB.out | apply below_alloc | apply pw_below_drewN | apply below_drew1) | exact HB.out)) hb); clear HB; have HB := n0_; clear n0_; (try clear hb); (try clear hb2); (try clear hk); (try clear hi)))
                                            go_ret
                                            exact ⟨by first | rfl | (simp [errW_none, errW_some] <;> rfl) | (simp [*, errW_none, errW_some] <;> rfl), by repeat (first | (with_reducible first | exact HB.out | apply below_alloc | apply pw_below_drewN | apply below_drew1) | exact HB.out)⟩
                                        · replace c32 := Bool.eq_false_iff.mpr c32
                                          subst c32
                                          have H1 : (haywainlaw12_LeaseRenews.j7 kj28 (wrap64 ((wrap64 (x0_2 + 7)) + (Int.tmod (wrap64 (rd l3 x13_2)) 3))) (wrap64 ((wrap64 (x1_2 + 7)) + (Int.tmod (wrap64 (Int.tdiv (wrap64 (rd l3 x13_2)) 3)) 3))) a2 l3 x9_2 x10_22 x11_18 x12_22 x13_2) = some r := by rw [if_neg (show ¬ (false = true) by decide)] at H; exact H
                                          clear H
                                          have H := H1
                                          clear H1
                                          have H' := Aside0.mk H
                                          clear H
                                          go_wp2
                                          go_meet
                                          case rel => exact ⟨_, (x9_2), (by first | rfl | (simp; done) | (simp [*]; done)), H', ⟨by have := HJ4.out; have := HK2.out; have := HJ13.out; have := HJ18.out; have := HJ20.out; have := HJ22.out; have := HJ28.out; first | omega | exact Nat.le_refl _⟩, ⟨by repeat (first | (with_reducible first | exact HB.out | apply below_alloc | apply pw_below_drewN | apply below_drew1) | exact HB.out)⟩⟩
                                      case rest =>
                                        clear HC31
                                        try clear c1
                                        try clear p1
                                        try clear q1
                                        try clear hx1
                                        try clear c2
                                        try clear p2
                                        try clear c3
                                        try clear c6
                                        try clear c6b0
                                        try clear p6
                                        try clear c7
                                        try clear c7b0
                                        try clear c8
                                        try clear c8b0
                                        try clear c9
                                        try clear c9b0
                                        try clear c10
                                        try clear c10b0
                                        try clear c11
                                        try clear p12
                                        try clear q12
                                        try clear hx12
                                        try clear c13
                                        try clear c15
                                        try clear c15b0
                                        try clear c16
                                        try clear c17
                                        try clear c17b0
                                        try clear c18
                                        try clear c18b0
                                        try clear c20
                                        try clear c20b0
                                        try clear c20b1
                                        try clear c22
                                        try clear c22b0
                                        try clear c22b1
                                        try clear c24
                                        try clear c26
                                        try clear c26b0
                                        try clear c26b1
                                        try clear c30
                                        try clear c30b0
                                        try clear c30b1
                                        try clear c32
                                        try clear c34
                                        try clear c34b0
                                        try clear c34b1
                                        try clear c35
                                        try clear c35b0
                                        try clear hx126_0
                                        try clear p1
                                        try clear p12
                                        try clear p126
                                        try clear p2
                                        try clear p6
                                        try clear q1
                                        try clear q12
                                        try clear q126
                                        obtain ⟨kq, x9_30, rfl, HA, HJ30, HB⟩ := hcut
                                        cases kq with
                                        | zero => exact absurd HA.out (by simp [haywainlaw12_LeaseRenews.j7])
                                        | succ kj30 =>
                                          have H := HA.out
                                          clear HA
                                          simp only [haywainlaw12_LeaseRenews.j7] at H
                                          by_cases c39 : x12_22 ≥ 0
                                          · rw [if_pos c39] at H
                                            have c39b0 : decide (0 ≤ x12_22) = true := decide_eq_true c39
                                            clear c39
                                            by_cases c40 : x9_30 > 0
                                            · rw [if_pos c40] at H
                                              have c40b0 : decide (0 < x9_30) = true := decide_eq_true c40
                                              clear c40
                                              replace H := Option.bind_eq_some_iff.mp H
                                              obtain ⟨t131, A410, H⟩ := H
                                              replace H : (if t131 = true then ((lease_Gone.f (wrap64 ((wrap64 (x1_2 + 7)) + (Int.tmod (wrap64 (Int.tdiv (wrap64 (rd l3 x13_2)) 3)) 3))) x10_22).bind fun t132 => (if t132 = true then (some false) else (haywainlaw12_LeaseRenews.l0 kj30 (wrap64 ((wrap64 (x0_2 + 7)) + (Int.tmod (wrap64 (rd l3 x13_2)) 3))) (wrap64 ((wrap64 (x1_2 + 7)) + (Int.tmod (wrap64 (Int.tdiv (wrap64 (rd l3 x13_2)) 3)) 3))) a2 l3 x9_30 x10_22 x11_18 x12_22 (wrap64 (x13_2 + 1))))) else (haywainlaw12_LeaseRenews.l0 kj30 (wrap64 ((wrap64 (x0_2 + 7)) + (Int.tmod (wrap64 (rd l3 x13_2)) 3))) (wrap64 ((wrap64 (x1_2 + 7)) + (Int.tmod (wrap64 (Int.tdiv (wrap64 (rd l3 x13_2)) 3)) 3))) a2 l3 x9_30 x10_22 x11_18 x12_22 (wrap64 (x13_2 + 1)))) = some r := H
                                              have A41 := Aside0.mk A410
                                              clear A410
                                              by_cases c42 : t131 = true
                                              · subst c42
                                                have H1 : ((lease_Gone.f (wrap64 ((wrap64 (x1_2 + 7)) + (Int.tmod (wrap64 (Int.tdiv (wrap64 (rd l3 x13_2)) 3)) 3))) x10_22).bind fun t132 => (if t132 = true then (some false) else (haywainlaw12_LeaseRenews.l0 kj30 (wrap64 ((wrap64 (x0_2 + 7)) + (Int.tmod (wrap64 (rd l3 x13_2)) 3))) (wrap64 ((wrap64 (x1_2 + 7)) + (Int.tmod (wrap64 (Int.tdiv (wrap64 (rd l3 x13_2)) 3)) 3))) a2 l3 x9_30 x10_22 x11_18 x12_22 (wrap64 (x13_2 + 1))))) = some r := by rw [if_pos rfl] at H; exact H
                                                clear H
                                                have H := H1
                                                clear H1
                                                replace H := Option.bind_eq_some_iff.mp H
                                                obtain ⟨t132, A430, H⟩ := H
                                                replace H : (if t132 = true then (some false) else (haywainlaw12_LeaseRenews.l0 kj30 (wrap64 ((wrap64 (x0_2 + 7)) + (Int.tmod (wrap64 (rd l3 x13_2)) 3))) (wrap64 ((wrap64 (x1_2 + 7)) + (Int.tmod (wrap64 (Int.tdiv (wrap64 (rd l3 x13_2)) 3)) 3))) a2 l3 x9_30 x10_22 x11_18 x12_22 (wrap64 (x13_2 + 1)))) = some r := H
                                                have A43 := Aside0.mk A430
                                                clear A430
                                                by_cases c44 : t132 = true
                                                · subst c44
                                                  have H1 : (some false) = some r := by rw [if_pos rfl] at H; exact H
                                                  clear H
                                                  have H := H1
                                                  clear H1
                                                  obtain rfl := Option.some.inj H
                                                  go_wp2_with (first | (go_at_call 14; (with_reducible refine (lease_Holds.calls (wrap64 ((wrap64 (x0_2 + 7)) + (Int.tmod (wrap64 (rd l3 x13_2)) 3))) x9_30 true _ A41.out).mono ?_); rintro e w' ⟨rfl, ⟨nd, rfl⟩⟩) | (go_at_call 15; (with_reducible refine (lease_Gone.calls (wrap64 ((wrap64 (x1_2 + 7)) + (Int.tmod (wrap64 (Int.tdiv (wrap64 (rd l3 x13_2)) 3)) 3))) x10_22 true _ A43.out).mono ?_); rintro e w' ⟨rfl, ⟨nd, rfl⟩⟩))
                                                  go_ret
                                                  exact ⟨by first | rfl | (simp [errW_none, errW_some] <;> rfl) | (simp [*, errW_none, errW_some] <;> rfl), by repeat (first | (with_reducible first | exact HB.out | apply below_alloc | apply pw_below_drewN | apply below_drew1) | exact HB.out)⟩
                                                · replace c44 := Bool.eq_false_iff.mpr c44
                                                  subst c44
                                                  have H1 : (haywainlaw12_LeaseRenews.l0 kj30 (wrap64 ((wrap64 (x0_2 + 7)) + (Int.tmod (wrap64 (rd l3 x13_2)) 3))) (wrap64 ((wrap64 (x1_2 + 7)) + (Int.tmod (wrap64 (Int.tdiv (wrap64 (rd l3 x13_2)) 3)) 3))) a2 l3 x9_30 x10_22 x11_18 x12_22 (wrap64 (x13_2 + 1))) = some r := by rw [if_neg (show ¬ (false = true) by decide)] at H; exact H
                                                  clear H
                                                  have H := H1
                                                  clear H1
                                                  have H' := Aside0.mk H
                                                  clear H
                                                  go_wp2_with (first | (go_at_call 14; (with_reducible refine (lease_Holds.calls (wrap64 ((wrap64 (x0_2 + 7)) + (Int.tmod (wrap64 (rd l3 x13_2)) 3))) x9_30 true _ A41.out).mono ?_); rintro e w' ⟨rfl, ⟨nd, rfl⟩⟩) | (go_at_call 15; (with_reducible refine (lease_Gone.calls (wrap64 ((wrap64 (x1_2 + 7)) + (Int.tmod (wrap64 (Int.tdiv (wrap64 (rd l3 x13_2)) 3)) 3))) x10_22 false _ A43.out).mono ?_); rintro e w' ⟨rfl, ⟨nd, rfl⟩⟩))
                                                  go_roundg kj30
                                                  case measure => have := HJ4.out; have := HK2.out; have := HJ13.out; have := HJ18.out; have := HJ20.out; have := HJ22.out; have := HJ28.out; have := HJ30.out; omega
                                                  case rel => exact ⟨((wrap64 ((wrap64 (x0_2 + 7)) + (Int.tmod (wrap64 (rd l3 x13_2)) 3)))), ((wrap64 ((wrap64 (x1_2 + 7)) + (Int.tmod (wrap64 (Int.tdiv (wrap64 (rd l3 x13_2)) 3)) 3)))), (x9_30), (x10_22), (x11_18), (x12_22), (wrap64 (x13_2 + 1)), (by first | rfl | (simp; done) | (simp [*]; done)), (by first | rfl | (simp; done) | (simp [*]; done)), (by first | rfl | (simp; done) | (simp [*]; done)), (by first | rfl | (simp; done) | (simp [*]; done)), (by first | rfl | (simp; done) | (simp [*]; done)), (by first | rfl | (simp; done) | (simp [*]; done)), (by first | rfl | (simp; done) | (simp [*]; done)), H', ⟨by have := HJ4.out; have := HK2.out; have := HJ13.out; have := HJ18.out; have := HJ20.out; have := HJ22.out; have := HJ28.out; have := HJ30.out; omega⟩, ⟨by repeat (first | (with_reducible first | exact HB.out | apply below_alloc | apply pw_below_drewN | apply below_drew1) | exact HB.out)⟩⟩
                                              · replace c42 := Bool.eq_false_iff.mpr c42
                                                subst c42
                                                have H1 : (haywainlaw12_LeaseRenews.l0 kj30 (wrap64 ((wrap64 (x0_2 + 7)) + (Int.tmod (wrap64 (rd l3 x13_2)) 3))) (wrap64 ((wrap64 (x1_2 + 7)) + (Int.tmod (wrap64 (Int.tdiv (wrap64 (rd l3 x13_2)) 3)) 3))) a2 l3 x9_30 x10_22 x11_18 x12_22 (wrap64 (x13_2 + 1))) = some r := by rw [if_neg (show ¬ (false = true) by decide)] at H; exact H
                                                clear H
                                                have H := H1
                                                clear H1
                                                have H' := Aside0.mk H
                                                clear H
                                                go_wp2_with (first | (go_at_call 14; (with_reducible refine (lease_Holds.calls (wrap64 ((wrap64 (x0_2 + 7)) + (Int.tmod (wrap64 (rd l3 x13_2)) 3))) x9_30 false _ A41.out).mono ?_); rintro e w' ⟨rfl, ⟨nd, rfl⟩⟩))
                                                go_roundg kj30
                                                case measure => have := HJ4.out; have := HK2.out; have := HJ13.out; have := HJ18.out; have := HJ20.out; have := HJ22.out; have := HJ28.out; have := HJ30.out; omega
                                                case rel => exact ⟨((wrap64 ((wrap64 (x0_2 + 7)) + (Int.tmod (wrap64 (rd l3 x13_2)) 3)))), ((wrap64 ((wrap64 (x1_2 + 7)) + (Int.tmod (wrap64 (Int.tdiv (wrap64 (rd l3 x13_2)) 3)) 3)))), (x9_30), (x10_22), (x11_18), (x12_22), (wrap64 (x13_2 + 1)), (by first | rfl | (simp; done) | (simp [*]; done)), (by first | rfl | (simp; done) | (simp [*]; done)), (by first | rfl | (simp; done) | (simp [*]; done)), (by first | rfl | (simp; done) | (simp [*]; done)), (by first | rfl | (simp; done) | (simp [*]; done)), (by first | rfl | (simp; done) | (simp [*]; done)), (by first | rfl | (simp; done) | (simp [*]; done)), H', ⟨by have := HJ4.out; have := HK2.out; have := HJ13.out; have := HJ18.out; have := HJ20.out; have := HJ22.out; have := HJ28.out; have := HJ30.out; omega⟩, ⟨by repeat (first | (with_reducible first | exact HB.out | apply below_alloc | apply pw_below_drewN | apply below_drew1) | exact HB.out)⟩⟩
                                            · rw [if_neg c40] at H
                                              have c40b0 : decide (0 < x9_30) = false := decide_eq_false c40
                                              clear c40
                                              have H' := Aside0.mk H
                                              clear H
                                              go_wp2
                                              go_roundg kj30
                                              case measure => have := HJ4.out; have := HK2.out; have := HJ13.out; have := HJ18.out; have := HJ20.out; have := HJ22.out; have := HJ28.out; have := HJ30.out; omega
                                              case rel => exact ⟨((wrap64 ((wrap64 (x0_2 + 7)) + (Int.tmod (wrap64 (rd l3 x13_2)) 3)))), ((wrap64 ((wrap64 (x1_2 + 7)) + (Int.tmod (wrap64 (Int.tdiv (wrap64 (rd l3 x13_2)) 3)) 3)))), (x9_30), (x10_22), (x11_18), (x12_22), (wrap64 (x13_2 + 1)), (by first | rfl | (simp; done) | (simp [*]; done)), (by first | rfl | (simp; done) | (simp [*]; done)), (by first | rfl | (simp; done) | (simp [*]; done)), (by first | rfl | (simp; done) | (simp [*]; done)), (by first | rfl | (simp; done) | (simp [*]; done)), (by first | rfl | (simp; done) | (simp [*]; done)), (by first | rfl | (simp; done) | (simp [*]; done)), H', ⟨by have := HJ4.out; have := HK2.out; have := HJ13.out; have := HJ18.out; have := HJ20.out; have := HJ22.out; have := HJ28.out; have := HJ30.out; omega⟩, ⟨by repeat (first | (with_reducible first | exact HB.out | apply below_alloc | apply pw_below_drewN | apply below_drew1) | exact HB.out)⟩⟩
                                          · rw [if_neg c39] at H
                                            have c39b0 : decide (0 ≤ x12_22) = false := decide_eq_false c39
                                            clear c39
                                            have H' := Aside0.mk H
                                            clear H
                                            go_wp2
                                            go_roundg kj30
                                            case measure => have := HJ4.out; have := HK2.out; have := HJ13.out; have := HJ18.out; have := HJ20.out; have := HJ22.out; have := HJ28.out; have := HJ30.out; omega
                                            case rel => exact ⟨((wrap64 ((wrap64 (x0_2 + 7)) + (Int.tmod (wrap64 (rd l3 x13_2)) 3)))), ((wrap64 ((wrap64 (x1_2 + 7)) + (Int.tmod (wrap64 (Int.tdiv (wrap64 (rd l3 x13_2)) 3)) 3)))), (x9_30), (x10_22), (x11_18), (x12_22), (wrap64 (x13_2 + 1)), (by first | rfl | (simp; done) | (simp [*]; done)), (by first | rfl | (simp; done) | (simp [*]; done)), (by first | rfl | (simp; done) | (simp [*]; done)), (by first | rfl | (simp; done) | (simp [*]; done)), (by first | rfl | (simp; done) | (simp [*]; done)), (by first | rfl | (simp; done) | (simp [*]; done)), (by first | rfl | (simp; done) | (simp [*]; done)), H', ⟨by have := HJ4.out; have := HK2.out; have := HJ13.out; have := HJ18.out; have := HJ20.out; have := HJ22.out; have := HJ28.out; have := HJ30.out; omega⟩, ⟨by repeat (first | (with_reducible first | exact HB.out | apply below_alloc | apply pw_below_drewN | apply below_drew1) | exact HB.out)⟩⟩
                    · rw [if_neg c18] at H
                      exact absurd H (by simp)
                  · rw [if_neg c17] at H
                    exact absurd H (by simp)
                · replace c16 := Bool.eq_false_iff.mpr c16
                  subst c16
                  have H1 : ((haywainlaw12_knows.f kj13).bind fun t125 => (some t125)) = some r := by rw [if_neg (show ¬ (false = true) by decide)] at H; exact H
                  clear H
                  have H := H1
                  clear H1
                  replace H := Option.bind_eq_some_iff.mp H
                  obtain ⟨t125, A450, H⟩ := H
                  replace H : (some t125) = some r := H
                  have A45 := Aside0.mk A450
                  clear A450
                  obtain rfl := Option.some.inj H
                  go_wp2_with (first | ((with_reducible refine gate_callee (f := 13) rfl ?_); refine goesL_ (some 126) rfl rfl Try.func13 (by kernel_rfl) rfl #[] rfl (by (try simp only [List.map_toArray, List.map_cons, List.map_nil]); first | done | rfl | (simp only [List.length_drop, List.length_take]; rfl)) ?_; (with_reducible refine (haywainlaw12_knows.calls kj13  t125 _ A45.out).mono ?_); rintro e w46 ⟨rfl, hb⟩; refine ⟨_, rfl, ?_⟩; have n0_ := Aside0.mk (below_step (by repeat (first | (with_reducible first | exact HB.out | apply below_alloc | apply pw_below_drewN | apply below_drew1) | exact HB.out)) hb); clear HB; have HB := n0_; clear n0_; (try clear hb); (try clear hb2); (try clear hk); (try clear hi)))
                  go_ret
                  exact ⟨by first | rfl | (simp [errW_none, errW_some] <;> rfl) | (simp [*, errW_none, errW_some] <;> rfl), by repeat (first | (with_reducible first | exact HB.out | apply below_alloc | apply pw_below_drewN | apply below_drew1) | exact HB.out)⟩

/-- THE ONE PURE STATEMENT of haywainlaw12_LeaseRenews: yours. -/
def haywainlaw12_LeaseRenews.Pure : Prop := ∀ (a0 : Int) (a1 : Int) (a2 : Int) (l3 : List Int), (Lit.int .i64 a0).wf = true → (Lit.int .i64 a1).wf = true → (Lit.int .i64 a2).wf = true → l3.length ≤ maxLen → l3.length * 1 ≤ 140737488351232 → (∀ x ∈ l3, (Lit.int .u8 x).wf = true) → ∃ k, haywainlaw12_LeaseRenews.f k a0 a1 a2 l3 = some true
theorem haywainlaw12_LeaseRenews.walk (P : haywainlaw12_LeaseRenews.Pure) (a0 : Int) (a1 : Int) (a2 : Int) (a3 : Option Addr) (len3 cap3 : Nat) (z3 : List Int) (w : World) (w0 : (Lit.int .i64 a0).wf = true) (w1 : (Lit.int .i64 a1).wf = true) (w2 : (Lit.int .i64 a2).wf = true) (w3 : (a3 = none ∧ len3 = 0 ∧ cap3 = 0 ∧ z3 = []) ∨ ∃ x, a3 = some x ∧ len3 ≤ cap3 ∧ cap3 ≤ maxLen ∧ z3.length = cap3 ∧ (∀ i, i < z3.length → w.cell? (x.add i) = some (.int .u8 (z3.getD i 0))) ∧ ∀ n ∈ z3, (Lit.int .u8 n).wf = true) (y3 : len3 * 1 ≤ 140737488351232) :
    Calls Try.prog 8 #[.int .i64 a0, .int .i64 a1, .int .i64 a2, .slice a3 len3 cap3] w fun e w' => e = .returned (.bool true) ∧ Below w.heap.size w w' := by
  obtain ⟨l3, rfl, hr3, hm3, hw3, hc3⟩ := ReadsInt.ofRowC w3
  obtain ⟨k, h⟩ := P a0 a1 a2 l3 w0 w1 w2 hm3 y3 hw3
  refine (haywainlaw12_LeaseRenews.calls k a0 a1 a2 _ _ l3 true w (Kd.C_of_reads (d := (0 : Int)) (h1 := fun _ => rfl) hr3) hc3 h).mono ?_
  rintro e w' ⟨rfl, hd⟩
  exact ⟨rfl, hd⟩

end Go.Proofs.Ytennlpldfjgldaa.PLeaseRenews
