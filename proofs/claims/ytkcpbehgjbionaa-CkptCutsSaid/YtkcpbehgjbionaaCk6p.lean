/- Checkpoints, in plain Lean: what the program answers, step by step. -/
import Derived.Test.YtkcpbehgjbionaaCk5p
set_option linter.unusedVariables false
set_option linter.unusedSimpArgs false
namespace Go.Proofs.Ytkcpbehgjbionaa.Pure
open Go Go.RowKit Go.Hw Go.Proofs.Ytkcpbehgjbionaa.G
theorem begin_f {K : Nat} (hK : 30000 ≤ K) {n : Nat} (hn : n ≤ 10) {p q : List Int} (hp : Bytes p) (hl : p.length ≤ 500) (hq : Bytes q) (hql : q.length ≤ 500) (fuel : Int) {keep : List Int} (hk : keep.length ≤ 100) :
    ∃ cs j x y, ckpt_Last.f K ⟨stL n p⟩ = some (if n = 0 then (0, [], 4) else ((n : Int), p, 0)) ∧ ckpt_Save.f K ⟨stL n p⟩ ((n : Int) + 1) q = some (cs, 0) ∧ ckpt_Do.f K ⟨stL n p⟩ cs fuel = some (⟨x⟩, ((j : Nat) : Int)) ∧ j ≤ cs.length ∧ disk_Crash.f K ⟨x⟩ keep = some ⟨crashS x keep⟩ ∧ ckpt_Open.f K ⟨crashS x keep⟩ = some (⟨y⟩, 0) ∧ ckpt_Last.f K ⟨y⟩ = some (lastS y) ∧ Left n p q j x y keep := by
  obtain ⟨hg, hnp, hlen, hsf⟩ := stL_Gd (show n ≤ 1000 by omega) hp (show p.length ≤ 4000 by omega)
  obtain ⟨s1, s2, s3⟩ := stL_next (show n ≤ 900 by omega) hp (show p.length ≤ 4000 by omega) hq (show q.length ≤ 4000 by omega) (by omega)
  have hcl := chg_le (show n ≤ 490 by omega) hp (show p.length ≤ 4000 by omega) hq (show q.length ≤ 4000 by omega)
  have hpay := chg_pay (l := stL n p) (num := (n : Int) + 1) (show q.length ≤ 4000 by omega)
  obtain ⟨j, h1, h2, _, _⟩ := doR_steps (fuel := fuel) _ 0 _ s2
  obtain ⟨y, hL⟩ := cuts hn hp hl hq hql h1 keep
  have hRx := hL.rx
  have hlx := hRx.len
  have hyR : RD y := by rcases hL.ns with ⟨g, _⟩ | ⟨g, _⟩ <;> exact g.rd
  have hyB : BD y := by rcases hL.ns with ⟨g, _⟩ | ⟨g, _⟩ <;> exact g.bd
  have hyl := hyR.len
  refine ⟨_, j, _, y, ?_, ?_, ?_, h1, ?_, ?_, ?_, hL⟩
  · rw [last_f hK (by omega) hg.bd, own_of hg.rd, stL_last (by omega) hp (by omega)]
  · rw [save_f hK (by omega) hg.bd _ hq, own_of hg.rd, s1]
  · rw [do_f hK (by omega) (by omega) hpay, h2, Nat.zero_add]
  · rw [crash_f (by omega) (by omega) (by omega), own_of hRx]
  · rw [open_f hK (by rw [crash_len]; omega) (BD_crash hL.bx keep), hL.op]
  · rw [last_f hK (by omega) hyB, own_of hyR]
theorem pair_RD {n : Nat} {q : List Int} (hq : q.length ≤ 4000) {ns : List Nat} (hns : ns.length ≤ 1000) : RD [fileC n q, fileM ns] := by
  have hfl := frameS_le hq
  have hWl := W_len ns
  refine ⟨by simp, ?_, fun x hx => ?_⟩
  · simp only [Srt, List.pairwise_cons, List.mem_singleton, forall_eq, List.not_mem_nil, false_imp_iff, implies_true, List.Pairwise.nil, and_true]
    exact fn_bl_m n
  · simp only [List.mem_cons, List.not_mem_nil, or_false] at hx
    rcases hx with rfl | rfl
    · exact ⟨fn_Nm n, by show (frameS q).length ≤ 20000; omega, by show (0 : Int) ≤ ((frameS q).length : Int); omega, Int.le_refl _⟩
    · exact ⟨mN_Nm, by show (W ns).length ≤ 20000; omega, by show (0 : Int) ≤ ((W ns).length : Int); omega, Int.le_refl _⟩
theorem pair_BD {n : Nat} {q : List Int} (hq : Bytes q) {ns : List Nat} : BD [fileC n q, fileM ns] := by
  intro x hx
  simp only [List.mem_cons, List.not_mem_nil, or_false] at hx
  rcases hx with rfl | rfl
  · exact frameS_bytes hq
  · exact W_bytes _
theorem pair_look {n : Nat} {q : List Int} {ns : List Nat} : look [fileC n q, fileM ns] (fn n) = some (fileC n q) ∧ look [fileC n q, fileM ns] mN = some (fileM ns) := by
  have k1 : key (fileC n q) = (fn n).toList := rfl
  have k2 : key (fileM ns) = mN.toList := rfl
  have e : ∀ m : List UInt8, mi m [fileC n q, fileM ns] = (if (fn n).toList == m then [fileC n q] else []) ++ (if mN.toList == m then [fileM ns] else []) := fun m => by
    show List.filter _ _ = _
    rw [List.filter_cons, List.filter_cons, List.filter_nil, k1, k2]
    split <;> split <;> rfl
  have h1 : ((fn n).toList == (fn n).toList) = true := by simp
  have h2 : (mN.toList == (fn n).toList) = false := by simpa using (fn_ne_m n).symm
  have h3 : ((fn n).toList == mN.toList) = false := by simpa using fn_ne_m n
  have h4 : (mN.toList == mN.toList) = true := by simp
  constructor
  · unfold look; rw [e, h1, h2]; rfl
  · unfold look; rw [e, h3, h4]; rfl
theorem pair_Gd {n : Nat} {q : List Int} (hq : Bytes q) (hl : q.length ≤ 4000) {ns : List Nat} (hns : ns.length ≤ 1000) (hu : Up 0 ns) : Gd [fileC n q, fileM ns] ns :=
  ⟨pair_RD hl hns, pair_BD hq, hu, getB_some pair_look.2⟩
theorem next_f {K : Nat} (hK : 30000 ≤ K) {y : List S70} {ns : List Nat} (hg : Gd y ns) (hnp : NP y) (hlen : y.length ≤ 10) (hns : ns.length ≤ 100) {num : Nat} (hlt : lastN 0 ns < num) (hnum : num ≤ 1099511627776) {q : List Int} (hq : Bytes q) (hql : q.length ≤ 4000) :
    ∃ cs z, ckpt_Save.f K ⟨y⟩ (num : Int) q = some (cs, 0) ∧ ckpt_Do.f K ⟨y⟩ cs (cs.length : Int) = some (⟨z⟩, (cs.length : Int)) ∧ disk_Crash.f K ⟨z⟩ [] = some ⟨crashS z []⟩ ∧ ckpt_Last.f K ⟨crashS z []⟩ = some ((num : Int), q, 0) ∧ disk_Names.f K ⟨z⟩ = some [fn num, mN] := by
  obtain ⟨s1, s2, s3⟩ := full hg hnp (by omega) (by omega) hlt hnum hq hql
  have hcl : (chg y (num : Int) q).length ≤ 100 := by
    have := chg_len y (num : Int) q
    rw [own_of hg.rd, s1] at this
    exact this
  have hpay := chg_pay (l := y) (num := (num : Int)) hql
  have hz : RD [fileC num q, fileM (ns ++ [num])] := pair_RD hql (by rw [List.length_append, List.length_singleton]; omega)
  have hzg : Gd [fileC num q, fileM (ns ++ [num])] (ns ++ [num]) := pair_Gd hq hql (by rw [List.length_append, List.length_singleton]; omega) (Up_snoc hg.up hlt hnum)
  have hc := co1 hzg (fun m hm => by rw [pair_look.2] at hm; rw [← Option.some.inj hm]; exact sfM _) []
  have hlast := hc.last_some (p := q) (by simp) hq hql (by
    rw [lastN_snoc, getB_some (look_crash_sf hzg.rd [] pair_look.1 (sfC num q))]
    rfl)
  rw [lastN_snoc] at hlast
  refine ⟨chg y (num : Int) q, [fileC num q, fileM (ns ++ [num])], ?_, ?_, ?_, ?_, ?_⟩
  · rw [save_f hK (by omega) hg.bd _ hq, own_of hg.rd, s1]
  · rw [do_all hK (by omega) (by omega) hpay s2, s3]
  · rw [crash_f (by simp) (by omega) (by simp), own_of hz]
  · rw [last_f hK (by rw [crash_len]; simp) hc.bd, own_of hc.rd, hlast]
  · rw [names_f (by simp) (by omega), own_of hz]
    rfl
theorem Bytes2 {l : List (List Int)} (h : ∀ x_ ∈ l, x_.length * 1 ≤ 140737488351232 ∧ ∀ x__ ∈ x_, (Lit.int .u8 x__).wf = true) : ∀ q ∈ l, Bytes q := fun q hq => Bytes.of_wf (h q hq).2
end Go.Proofs.Ytkcpbehgjbionaa.Pure
