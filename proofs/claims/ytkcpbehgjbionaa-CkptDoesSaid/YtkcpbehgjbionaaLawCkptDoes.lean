/- THE ROW OF THE LAW CkptDoes, out of its contract and its plain statement. -/
import Derived.Test.YtkcpbehgjbionaaRows
import Derived.Test.YtkcpbehgjbionaaLCkptDoes
import Derived.Test.YtkcpbehgjbionaaPureCkptDoes
import Derived.Test.YtkcpbehgjbionaaHwOpen
import Derived.WalkKit
import Derived.ProofKit
import Derived.OpenShut
import Derived.ShutString
import Derived.ChangeOld
import Derived.Below
import Derived.SizedLaws
namespace Go.Proofs.Ytkcpbehgjbionaa.ckptDoes
open Go.ChangeShapes Go.WideShapes Go.ChangeAt Go.RowKit Go.Hw Go.Proofs.Ytkcpbehgjbionaa.G Go.Proofs.Ytkcpbehgjbionaa
open Go.ChangeMaps (open_string shut_string)
set_option linter.unusedVariables false
theorem own : ownKnob Try.prog.godebug = none := by kernel_rfl
theorem laidOut : laidOutB Try.prog = true := by kernel_rfl
theorem opens_st70 : Opens Try.prog 70 kd70 wf70 := by
  intro H enc W base spare held fuel cs y h hw
  have hl : cs.length = 3 := (length_of Try.underlying70 h).trans (by kernel_rfl)
  obtain ⟨n0, y0, e0, q0⟩ := field_of Try.underlying70 h hw 0 _ rfl 0 1 rfl (by kernel_rfl)
  obtain ⟨v0, K0, w0⟩ := (opens_string Try.underlying9) H enc W base spare held n0 _ y0 e0 q0
  have E0 := K0
  obtain ⟨n1, y1, e1, q1⟩ := field_of Try.underlying70 h hw 1 _ rfl 1 1 rfl (by kernel_rfl)
  obtain ⟨v1, K1, w1⟩ := (opens_slice 1 Try.underlying27 (by kernel_rfl) (by decide) (by kernel_rfl) (opens_int Try.underlying5)) H enc W base spare held n1 _ y1 e1 q1
  obtain ⟨A1, c1, E1, R1⟩ := K1
  obtain ⟨n2, y2, e2, q2⟩ := field_of Try.underlying70 h hw 2 _ rfl 2 1 rfl (by kernel_rfl)
  obtain ⟨v2, K2, w2⟩ := (opens_int Try.underlying3) H enc W base spare held n2 _ y2 e2 q2
  have E2 := K2
  have hc : cs.drop 0 = _ := (cat_cells E0 (cat_cells E1 (cat_cells E2 (no_cells hl))))
  rw [List.drop_zero] at hc
  exact ⟨⟨v0, v1, v2⟩, ⟨(A1, c1), hc, R1⟩, ⟨w0, w1, w2⟩⟩
theorem opens_st24 : Opens Try.prog 24 kd24 wf24 := by
  intro H enc W base spare held fuel cs y h hw
  have hl : cs.length = 1 := (length_of Try.underlying24 h).trans (by kernel_rfl)
  obtain ⟨n0, y0, e0, q0⟩ := field_of Try.underlying24 h hw 0 _ rfl 0 1 rfl (by kernel_rfl)
  obtain ⟨v0, K0, w0⟩ := (opens_slice 48 Try.underlying22 (by kernel_rfl) (by decide) (by kernel_rfl) opens_st70) H enc W base spare held n0 _ y0 e0 q0
  obtain ⟨A0, c0, E0, R0⟩ := K0
  have hc : cs.drop 0 = _ := (cat_cells E0 (no_cells hl))
  rw [List.drop_zero] at hc
  exact ⟨⟨v0⟩, ⟨(A0, c0), hc, R0⟩, w0⟩
theorem opens_st48 : Opens Try.prog 48 kd48 wf48 := by
  intro H enc W base spare held fuel cs y h hw
  have hl : cs.length = 3 := (length_of Try.underlying48 h).trans (by kernel_rfl)
  obtain ⟨n0, y0, e0, q0⟩ := field_of Try.underlying48 h hw 0 _ rfl 0 1 rfl (by kernel_rfl)
  obtain ⟨v0, K0, w0⟩ := (opens_int Try.underlying3) H enc W base spare held n0 _ y0 e0 q0
  have E0 := K0
  obtain ⟨n1, y1, e1, q1⟩ := field_of Try.underlying48 h hw 1 _ rfl 1 1 rfl (by kernel_rfl)
  obtain ⟨v1, K1, w1⟩ := (opens_string Try.underlying9) H enc W base spare held n1 _ y1 e1 q1
  have E1 := K1
  obtain ⟨n2, y2, e2, q2⟩ := field_of Try.underlying48 h hw 2 _ rfl 2 1 rfl (by kernel_rfl)
  obtain ⟨v2, K2, w2⟩ := (opens_slice 1 Try.underlying27 (by kernel_rfl) (by decide) (by kernel_rfl) (opens_int Try.underlying5)) H enc W base spare held n2 _ y2 e2 q2
  obtain ⟨A2, c2, E2, R2⟩ := K2
  have hc : cs.drop 0 = _ := (cat_cells E0 (cat_cells E1 (cat_cells E2 (no_cells hl))))
  rw [List.drop_zero] at hc
  exact ⟨⟨v0, v1, v2⟩, ⟨(A2, c2), hc, R2⟩, ⟨w0, w1, w2⟩⟩
set_option maxRecDepth 100000 in
theorem lifted (os : Os) (started : os.Started) (H : Type) (enc : TypeId × Value → H) :
    ReturnsInHanded {} Try.checked os 5 .any (Rows.ckptDoesSpec.pre6 enc Try.prog Try.f5 Rows.ckptDoesRow.domain false) (Rows.ckptDoesSpec.post enc Try.prog Try.f5 false true false false) := by
  refine returnsInHanded_of_change_sized (C := Try.checked) own started (by kernel_rfl) Try.func5
    (ChangeSpec.witness6 (enc := enc) (C := Try.checked) false ⟨#[], #[.agg #[.slice none 0 0], .slice none 0 0, .int .i64 0], []⟩ 8 (by kernel_rfl) (by kernel_rfl) (by kernel_rfl) (by kernel_rfl)) ?_
  intro W base args ds gs before hval0 hW hcnd hsz0 _
  have hsz : (DataW.weightsEach Try.prog (Try.f5.params.toList ++ Rows.ckptDoesSpec.plain.varTypes Try.prog) (ds ++ gs)).all (· ≤ reachBytes) = true := hsz0
  have hval : ∀ (j : Nat) t v, Try.f5.params[j]? = some t → args[j]? = some v → Value.okWide Try.prog W .any base t v := hval0
  have hW' := hW
  obtain ⟨p, q, hA0, hV, rfl, hfz, hnd⟩ := hW
  have hA : DataW.TrodAll enc Try.prog W 0 (fun _ => true) true Try.f5.params.toList args.toList ds p := hA0
  rw [Try.params5] at hA hval hsz
  obtain ⟨v0, vs0, d0, ds0, p0, q0, hargs, rfl, rfl, h0, r0⟩ := trodAll_cons hA
  obtain ⟨v1, vs1, d1, ds1, p1, q1, rfl, rfl, rfl, h1, r1⟩ := trodAll_cons r0
  obtain ⟨v2, vs2, d2, ds2, p2, q2, rfl, rfl, rfl, h2, r2⟩ := trodAll_cons r1
  obtain ⟨rfl, rfl, rfl⟩ := trodAll_nil r2
  obtain rfl : args = #[v0, v1, v2] := by cases args; simp_all
  obtain ⟨rfl, rfl⟩ := trodVars_none hV
  have k0 := h0
  have lt0 : ∀ x ∈ p0, x.block < W.heap.size := by obtain ⟨m, hm⟩ := k0; exact DataW.trod_lt m _ _ _ hm
  have hwt0 : ∀ n ∈ d0.weights Try.prog 24, n ≤ reachBytes := fun n hn => of_decide_eq_true (List.all_eq_true.1 hsz n (DataW.weights_mem_each (j := 0) rfl rfl n hn))
  obtain ⟨fuel0, hf0⟩ := h0
  obtain ⟨cs0, rfl, hs0⟩ := okWide_struct Try.underlying24 (hval 0 24 v0 rfl rfl)
  have hf0' : DataW.trod enc Try.prog W 0 (fun _ => true) true fuel0 24 cs0.toList = some (d0, p0) := by simpa [Value.cells] using hf0
  obtain ⟨a0, K0, w0⟩ := opens_st24 H enc W 0 (fun _ => true) true fuel0 _ (d0, p0) hf0' hwt0
  obtain ⟨g0_0, E0, R0_0⟩ := K0
  obtain ⟨l0⟩ := cs0
  obtain rfl : l0 = _ := E0
  have k1 := h1
  have lt1 : ∀ x ∈ p1, x.block < W.heap.size := by obtain ⟨m, hm⟩ := k1; exact DataW.trod_lt m _ _ _ hm
  have hwt1 : ∀ n ∈ d1.weights Try.prog 37, n ≤ reachBytes := fun n hn => of_decide_eq_true (List.all_eq_true.1 hsz n (DataW.weights_mem_each (j := 1) rfl rfl n hn))
  obtain ⟨fuel1, hf1⟩ := h1
  obtain ⟨A1', n1, c1', rfl⟩ := okWide_slice Try.underlying37 (hval 1 37 v1 rfl rfl)
  obtain ⟨a1, ⟨A1, c1, he1, R1⟩, w1⟩ := (opens_slice 48 Try.underlying37 (by kernel_rfl) (by decide) (by kernel_rfl) opens_st48) H enc W 0 (fun _ => true) true fuel1 _ (d1, p1) hf1 hwt1
  obtain ⟨rfl, rfl, rfl⟩ : A1' = A1 ∧ n1 = a1.length ∧ c1' = c1 := by simpa [Value.cells] using he1
  obtain ⟨a2, rfl, rfl, rfl, w2⟩ := open_int Try.underlying3 (hval 2 3 v2 rfl rfl) h2
  clear hA0 hval0 hsz0 hsz
  obtain ⟨K, h⟩ := Pure.CkptDoes a0 a1 a2 w0 w1 w2
  have hC := haywainlaw14_CkptDoes.con K a0 a1 a2 g0_0 (A1', c1') true (fun _ _ => False) W (St.begin ⟨fun w' hw => R0_0.mono hw, fun w' hw => R1.mono hw, trivial⟩) h rfl
  refine (Cn.below hC).mono fun e W' ⟨he, bel⟩ => ?_
  subst he
  exact ⟨_, rfl, _, _, _, [], _, [], hW', trodAll_mk1 (shut_bool Try.underlying4 _), (trodAll_cons_mk (Below.trod laidOut (by kernel_rfl) (of_decide_eq_true (by kernel_rfl)) k0 bel lt0) (trodAll_cons_mk (Below.trod laidOut (by kernel_rfl) (of_decide_eq_true (by kernel_rfl)) k1 bel lt1) (trodAll_cons_mk (shut_int Try.underlying3 w2) trodAll_mk0))), rfl, bel.frame _, fun h => by cases h⟩
theorem over : Rows.ckptDoesRow.holds Try.pinned (OpenSpec.ofChange Rows.ckptDoesSpec) :=
  OpenClaim.holds_of_wide 5 Try.f5 rfl rfl rfl rfl rfl rfl rfl ⟨rfl, rfl, rfl, rfl, rfl⟩ rfl rfl rfl rfl rfl (by kernel_rfl) Try.func5 (by kernel_rfl)
    (of_decide_eq_true (by kernel_rfl)) (by unfold Func.isWrapper; first | (rw [if_pos (by decide +kernel)]; kernel_rfl) | (rw [if_neg (by decide +kernel)]; exact ⟨rfl, rfl⟩))
    (fun os started H enc _ => lifted os started H enc)
theorem proved : Rows.CkptDoesSaid := over
#print axioms proved
end Go.Proofs.Ytkcpbehgjbionaa.ckptDoes
namespace Go.Proofs.Ytkcpbehgjbionaa
/-- The row, under a short name, for the claim. -/
theorem ckptDoes_holds : Rows.CkptDoesSaid := ckptDoes.proved
end Go.Proofs.Ytkcpbehgjbionaa
