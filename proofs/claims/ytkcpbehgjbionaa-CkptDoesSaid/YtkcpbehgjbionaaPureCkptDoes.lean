/- The plain law of CkptDoes. -/
import Derived.Test.YtkcpbehgjbionaaCk4r
import Derived.Test.YtkcpbehgjbionaaLCkptDoes
set_option linter.unusedVariables false
set_option linter.unusedSimpArgs false
namespace Go.Proofs.Ytkcpbehgjbionaa.Pure
open Go Go.RowKit Go.Hw Go.Proofs.Ytkcpbehgjbionaa.G
theorem wide_loop {K : Nat} (hkn : haywainlaw14_knows.f K = some true) (cs : List S48) (hl : cs.length ≤ 1000) : ∀ (k i : Nat), i ≤ cs.length → cs.length < k + i →
    haywainlaw14_CkptDoes.l19 K cs k (i : Int) = some (.inr true) ∨ (haywainlaw14_CkptDoes.l19 K cs k (i : Int) = some (.inl ()) ∧ ∀ c ∈ cs.drop i, c.f2.length ≤ 30000) := by
  intro k
  induction k with
  | zero => intro i h1 h2; omega
  | succ k ih =>
    intro i h1 h2
    rw [haywainlaw14_CkptDoes.l19]
    by_cases hi : i < cs.length
    · have hx : cs[i]? = some cs[i] := List.getElem?_eq_getElem hi
      have hlt : ((i : Int) < (cs.length : Int)) := by omega
      simp only [condD, if_pos hlt, idxN, hx, Option.bind_some, step1 (show i < 1000000000 by omega), hkn]
      rw [List.drop_eq_getElem_cons hi]
      by_cases c1 : (cs[i].f2.length : Int) > 30000
      · rw [if_pos c1]; exact .inl rfl
      · by_cases c2 : (cs[i].f1.size : Int) > 100
        · rw [if_neg c1, if_pos c2]; exact .inl rfl
        · rw [if_neg c1, if_neg c2]
          rcases ih (i + 1) hi (by omega) with h | ⟨h, h'⟩
          · exact .inl h
          · refine .inr ⟨h, fun c hc => ?_⟩
            rcases List.mem_cons.1 hc with rfl | hc
            · omega
            · exact h' c hc
    · have hlt : ¬ ((i : Int) < (cs.length : Int)) := by omega
      simp only [condD, if_neg hlt]
      refine .inr ⟨trivial, ?_⟩
      rw [List.drop_eq_nil_of_le (show cs.length ≤ i by omega)]
      simp
theorem CkptDoes : haywainlaw14_CkptDoes.Pure := by
  rintro ⟨l⟩ cs fuel hw hc hf
  have hb : BD l := BD_of hw
  have hcb : ∀ c ∈ cs, Bytes c.f2 := fun c h => Bytes.of_wf (hc.2 c h).2.2.2
  obtain ⟨K, hK, hkn⟩ := knows_f
  have hK2 : 2000 ≤ K := by omega
  refine ⟨K, ?_⟩
  obtain ⟨g, hg, hgl⟩ := great_f hK l
  rw [haywainlaw14_CkptDoes.f, hg, Option.bind_some, hkn]
  cases g with
  | true => rfl
  | false =>
    have hl : l.length ≤ 1000 := by have := hgl rfl; omega
    rw [cond_false, condD]
    by_cases h : (cs.length : Int) > 50
    · rw [if_pos h]; rfl
    rw [if_neg h, as_f hl hK2, Option.bind_some, rright_f hl hK2, Option.bind_some, condB']
    by_cases hR : RD l
    · rw [decide_eq_true hR, if_neg (by decide)]
      rcases wide_loop hkn cs (by omega) K 0 (by omega) (by omega) with hwl | ⟨hwl, hp⟩
      · have hwl' : haywainlaw14_CkptDoes.l19 K cs K 0 = some (.inr true) := hwl
        rw [hwl', Option.bind_some]
        rfl
      · have hwl' : haywainlaw14_CkptDoes.l19 K cs K 0 = some (.inl ()) := hwl
        rw [List.drop_zero] at hp
        have hp' : ∀ c ∈ cs, c.f2.length ≤ 1000000000 := fun c hc => by have := hp c hc; omega
        obtain ⟨i1, i2⟩ := doR_inv (fuel := fuel) cs 0 l hcb hb hl
        obtain ⟨j1, j2⟩ := openS_inv i1 i2
        rw [hwl', Option.bind_some, Sum.elim_inl, do_f hK hl (by omega) hp', Option.bind_some]
        rw [asC_f hK (show cs.length ≤ 1000 by omega), Option.bind_some, Option.bind_some, rdo_f hK hl (show cs.length ≤ 1000 by omega) hp', Option.bind_some, condN, if_pos rfl]
        simp only [as_f i2 hK2, same_f i2 hK2, Option.bind_some, Bool.not_true, cond_false, open_f hK i2 i1, ropen_f hK i2 i1, as_f j2 hK2, same_f j2 hK2, beq_self_eq_true, cond_true]
    · rw [decide_eq_false hR, if_pos rfl]
      rfl
end Go.Proofs.Ytkcpbehgjbionaa.Pure
