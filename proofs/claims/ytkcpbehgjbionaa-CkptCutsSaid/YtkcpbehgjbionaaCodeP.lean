/- Frames: what is taken of bytes. -/
import Derived.Test.YtkcpbehgjbionaaCode
set_option linter.unusedVariables false
set_option linter.unusedSimpArgs false
namespace Go.Proofs.Ytkcpbehgjbionaa.Pure
open Go Go.RowKit Go.Hw Go.Proofs.Ytkcpbehgjbionaa.G
theorem tdivN (a : Int) (b : Nat) (h : 0 ≤ a) : a.tdiv (b : Int) = a / b := Int.tdiv_eq_ediv_of_nonneg h
theorem tmodN (a : Int) (b : Nat) (h : 0 ≤ a) : a.tmod (b : Int) = a % b := Int.tmod_eq_emod_of_nonneg h
theorem be4_inj {a b : Int} (ha : 0 ≤ a ∧ a < 4294967296) (hb : 0 ≤ b ∧ b < 4294967296) (h : be4 a = be4 b) : a = b := by
  have := congrArg (val 0) h
  rw [val_be4, val_be4] at this
  omega
theorem frame_split {b : List Int} {N : Nat} (h8 : 8 ≤ b.length) (hN : 8 + N ≤ b.length) : b.take (8 + N) = b.take 4 ++ (b.take 8).drop 4 ++ (b.take (8 + N)).drop 8 := by
  have e1 : b.take (8 + N) = (b.take (8 + N)).take 8 ++ (b.take (8 + N)).drop 8 := (List.take_append_drop 8 _).symm
  have e2 : (b.take (8 + N)).take 8 = b.take 8 := by rw [List.take_take]; congr 1; omega
  have e3 : b.take 8 = (b.take 8).take 4 ++ (b.take 8).drop 4 := (List.take_append_drop 4 _).symm
  have e4 : (b.take 8).take 4 = b.take 4 := by rw [List.take_take]; rfl
  rw [e2] at e1
  rw [e4] at e3
  rw [← e3]
  exact e1
theorem frame_iff {b : List Int} {N : Nat} (hb : Bytes b) (h8 : 8 ≤ b.length) (hv : val 0 (b.take 4) = N) (hN : 8 + N ≤ b.length) :
    frameS ((b.take (8 + N)).drop 8) = b.take (8 + N) ↔ sumS (b.take 4 ++ (b.take (8 + N)).drop 8) = val 0 ((b.take 8).drop 4) := by
  have l4 : (b.take 4).length = 4 := by rw [List.length_take]; omega
  have l44 : ((b.take 8).drop 4).length = 4 := by rw [List.length_drop, List.length_take]; omega
  have lp : ((b.take (8 + N)).drop 8).length = N := by rw [List.length_drop, List.length_take]; omega
  have hp : be4 (N : Int) = b.take 4 := by rw [← hv]; exact be4_val (hb.take 4) l4
  have hs := sumS_bd _ ((hb.take 4).append ((hb.take (8 + N)).drop 8))
  have v2 := val4_bd ((hb.take 8).drop 4) l44
  have hf : frameS ((b.take (8 + N)).drop 8) = b.take 4 ++ be4 (sumS (b.take 4 ++ (b.take (8 + N)).drop 8)) ++ (b.take (8 + N)).drop 8 := by
    unfold frameS
    rw [lp, hp]
  have hsp := frame_split (b := b) h8 hN
  rw [hf]
  generalize (b.take (8 + N)).drop 8 = p at *
  generalize b.take (8 + N) = q at *
  subst hsp
  constructor
  · intro h
    have h1 := List.append_cancel_left (List.append_cancel_right h)
    have h2 := congrArg (val 0) h1
    rw [val_be4] at h2
    omega
  · intro h
    rw [h, be4_val ((hb.take 8).drop 4) l44]
theorem takeS_zero {b : List Int} (hb : Bytes b) (h : (takeS b).2.2 = 0) : ∃ N : Nat, val 0 (b.take 4) = N ∧ N ≤ 4000 ∧ 8 + N ≤ b.length ∧ takeS b = ((b.take (8 + N)).drop 8, b.drop (8 + N), 0) ∧ frameS ((b.take (8 + N)).drop 8) = b.take (8 + N) := by
  unfold takeS at h ⊢
  by_cases h8 : b.length < 8
  · rw [if_pos h8] at h; simp at h
  rw [if_neg h8] at h ⊢
  by_cases h1 : val 0 (b.take 4) > 4000 ∨ val 0 (b.take 4) > b.length - 8
  · rw [if_pos h1] at h; simp at h
  rw [if_neg h1] at h ⊢
  have v := val4_bd (hb.take 4) (by rw [List.length_take]; omega)
  obtain ⟨N, hN⟩ := Int.eq_ofNat_of_zero_le v.1
  rw [hN] at h h1 ⊢
  rw [Int.toNat_natCast] at h ⊢
  by_cases h2 : sumS (b.take 4 ++ (b.take (8 + N)).drop 8) = val 0 ((b.take 8).drop 4)
  · rw [if_pos h2]
    exact ⟨N, rfl, by omega, by omega, rfl, (frame_iff hb (by omega) hN (by omega)).2 h2⟩
  · rw [if_neg h2] at h; simp at h
theorem takeS_err {b : List Int} (h : (takeS b).2.2 ≠ 0) : takeS b = ([], [], (takeS b).2.2) := by
  unfold takeS at h ⊢
  split
  · rfl
  · split
    · rfl
    · split
      · rename_i h1 h2 h3; rw [if_neg h1, if_neg h2, if_pos h3] at h; simp at h
      · rfl
theorem frameS_take4 (p m : List Int) : (frameS p ++ m).take 4 = be4 p.length := by simp [frameS, be4]
/-- A frame's payload is taken as it was; what stands behind it is left. -/
theorem take_frame {p m : List Int} (hp : Bytes p) (hm : Bytes m) (hl : p.length ≤ 4000) : takeS (frameS p ++ m) = (p, m, 0) := by
  have hf := frameS_length p
  have hb := (frameS_bytes hp).append hm
  have h8 : 8 ≤ (frameS p ++ m).length := by rw [List.length_append]; omega
  have hv : val 0 ((frameS p ++ m).take 4) = (p.length : Int) := by rw [frameS_take4, val_be4]; omega
  have ht : (frameS p ++ m).take (8 + p.length) = frameS p := by rw [show 8 + p.length = (frameS p).length by omega, List.take_left']; rfl
  have hd : (frameS p ++ m).drop (8 + p.length) = m := by rw [show 8 + p.length = (frameS p).length by omega, List.drop_left']; rfl
  have hd8 : (frameS p).drop 8 = p := by simp [frameS, be4]
  have hs : sumS ((frameS p ++ m).take 4 ++ ((frameS p ++ m).take (8 + p.length)).drop 8) = val 0 (((frameS p ++ m).take 8).drop 4) := (frame_iff hb h8 hv (by rw [List.length_append]; omega)).1 (by rw [ht, hd8])
  unfold takeS
  rw [if_neg (by omega), hv, Int.toNat_natCast, if_neg (by rw [List.length_append]; omega), if_pos hs, ht, hd, hd8]
/-- What is cut off within a frame is none. -/
theorem take_cut {p : List Int} {m : Nat} (hl : p.length ≤ 4000) (hm : m < (frameS p).length) : takeS ((frameS p).take m) = ([], [], 2) := by
  have hf := frameS_length p
  have hlen : ((frameS p).take m).length = m := by rw [List.length_take]; omega
  unfold takeS
  by_cases h8 : m < 8
  · rw [if_pos (by omega)]
  have hv : val 0 (((frameS p).take m).take 4) = (p.length : Int) := by
    rw [List.take_take, show min 4 m = 4 by omega]
    have := frameS_take4 p []
    rw [List.append_nil] at this
    rw [this, val_be4]; omega
  rw [if_neg (by omega), hv, if_pos (by omega)]
end Go.Proofs.Ytkcpbehgjbionaa.Pure
