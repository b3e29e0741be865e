/- The plain law of MailOnly. -/
import Derived.Test.YtlcbgmaajijbjaaMail7
import Derived.Test.YtlcbgmaajijbjaaLMailOnly
set_option linter.unusedVariables false
set_option linter.unusedSimpArgs false
namespace Go.Proofs.Ytlcbgmaajijbjaa.Pure
open Go Go.RowKit Go.Hw Go.Proofs.Ytlcbgmaajijbjaa.G
theorem MailOnly : haywainlaw15_MailOnly.Pure := by
  intro b cut hw hc
  obtain ⟨K, hK, hkn⟩ := knows_f
  refine ⟨K, ?_⟩
  rw [haywainlaw15_MailOnly.f, condD]
  by_cases h : (b.length : Int) > 5000
  · rw [if_pos h, hkn]; rfl
  · have hb : Bytes b := Bytes.of_wf hw.2
    obtain ⟨l, t, e, ht, hbt, hl⟩ := bytes_split b.length b hb (Nat.le_refl _)
    have hlen : b.length = 8 * l.length + t.length := by rw [e, List.length_append, Wl_length]
    rw [if_neg h, appN (by simp only [List.length_nil]; omega), Option.bind_some, List.nil_append]
    have d1 := decode_f hK ht hbt hl (show l.length ≤ 1000 by omega)
    rw [← e] at d1
    rw [d1, Option.bind_some, hkn]
    cases hdd : (if t = [] then dec l else none) with
    | none =>
      simp only [ansM, Option.bind_some, condN, condB]
      rfl
    | some m =>
      by_cases ct : t = []
      · rw [if_pos ct] at hdd
        obtain ⟨hr, el⟩ := (dec_iff _ _).1 hdd
        subst el
        subst ct
        rw [List.append_nil] at e
        have hn0 : 0 < (nums m).length := by simp [nums, front, hd, List.length_append]
        have hblen : b.length = 8 * (nums m).length := by rw [e, Wl_length]
        have hbn : ¬ ((b.length : Int) = 0) := by omega
        have u0 : 0 ≤ IntKind.wrap .u64 cut := by rw [wrapU_mod]; omega
        have u1 : IntKind.wrap .u64 (b.length : Int) = (b.length : Int) := wrapU (by omega) (by omega)
        obtain ⟨c, hcn⟩ : ∃ c : Nat, IntKind.wrap .u64 cut = (c : Int) := ⟨_, Int.eq_ofNat_of_zero_le u0 |>.choose_spec⟩
        have tm : (c : Int).tmod (b.length : Int) = ((c % b.length : Nat) : Int) := by rw [tmodN _ _ (by omega)]; omega
        have hlt : c % b.length < b.length := Nat.mod_lt _ (by omega)
        have rm : remO (c : Int) (b.length : Int) = some ((c % b.length : Nat) : Int) := by rw [remO, if_neg hbn, tm]
        have w1 : IntKind.wrap .i64 ((c % b.length : Nat) : Int) = ((c % b.length : Nat) : Int) := wrapI (by omega) (by omega)
        have c1 : cutO b 0 ((c % b.length : Nat) : Int) = some (b.take (c % b.length)) := (cutN (xs := b) (lo := 0) (hi := c % b.length) (by omega)).trans (by simp)
        have c2 : cutL b ((0 : Int).toNat) (((c % b.length : Nat) : Int).toNat) = b.take (c % b.length) := by simp only [cutL, Int.toNat_natCast]; rfl
        obtain ⟨l', t', e', ht', hbt', hl'⟩ := bytes_split b.length (b.take (c % b.length)) (hb.take _) (by rw [List.length_take]; omega)
        have hlen' : (b.take (c % b.length)).length = 8 * l'.length + t'.length := by rw [e', List.length_append, Wl_length]
        rw [List.length_take] at hlen'
        have d2 := decode_f hK ht' hbt' hl' (show l'.length ≤ 1000 by omega)
        rw [← e'] at d2
        have hno := no_cut hr hl (j := c % b.length) (by rw [Wl_length]; omega) hl' (by rw [← e]; exact e')
        rw [hno] at d2
        have se : ((strOfNums (Wl (nums m))).toList == (strOfNums b).toList) = true := strEq' e.symm
        simp only [ansM, encode_f (RR_few hr) hK, if_pos hr, Option.bind_some, condN, condB, condD, if_true, se, Bool.not_true, cond_false, if_neg hbn, u1, hcn, rm, tm, w1, c1, c2, d2]
      · rw [if_neg ct] at hdd; cases hdd
end Go.Proofs.Ytlcbgmaajijbjaa.Pure
