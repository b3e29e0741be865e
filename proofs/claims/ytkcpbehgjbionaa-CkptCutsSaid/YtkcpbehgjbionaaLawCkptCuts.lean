/- THE ROW OF THE LAW CkptCuts, out of its contract and its plain statement. -/
import Derived.Test.YtkcpbehgjbionaaRows
import Derived.Test.YtkcpbehgjbionaaLCkptCuts
import Derived.Test.YtkcpbehgjbionaaPureCkptCuts
import Derived.Test.YtkcpbehgjbionaaHwOpen
import Derived.WalkKit
import Derived.ProofKit
import Derived.OpenShut
import Derived.ShutString
import Derived.ChangeOld
import Derived.Below
import Derived.SizedLaws
namespace Go.Proofs.Ytkcpbehgjbionaa.ckptCuts
open Go.ChangeShapes Go.WideShapes Go.ChangeAt Go.RowKit Go.Hw Go.Proofs.Ytkcpbehgjbionaa.G Go.Proofs.Ytkcpbehgjbionaa
open Go.ChangeMaps (open_string shut_string)
set_option linter.unusedVariables false
theorem own : ownKnob Try.prog.godebug = none := by kernel_rfl
theorem laidOut : laidOutB Try.prog = true := by kernel_rfl
set_option maxRecDepth 100000 in
theorem lifted (os : Os) (started : os.Started) (H : Type) (enc : TypeId × Value → H) :
    ReturnsInHanded {} Try.checked os 6 .any (Rows.ckptCutsSpec.pre6 enc Try.prog Try.f6 Rows.ckptCutsRow.domain false) (Rows.ckptCutsSpec.post enc Try.prog Try.f6 false true false false) := by
  refine returnsInHanded_of_change_sized (C := Try.checked) own started (by kernel_rfl) Try.func6
    (ChangeSpec.witness6 (enc := enc) (C := Try.checked) false ⟨#[], #[.slice none 0 0, .slice none 0 0, .int .i64 0, .slice none 0 0], []⟩ 8 (by kernel_rfl) (by kernel_rfl) (by kernel_rfl) (by kernel_rfl)) ?_
  intro W base args ds gs before hval0 hW hcnd hsz0 _
  have hsz : (DataW.weightsEach Try.prog (Try.f6.params.toList ++ Rows.ckptCutsSpec.plain.varTypes Try.prog) (ds ++ gs)).all (· ≤ reachBytes) = true := hsz0
  have hval : ∀ (j : Nat) t v, Try.f6.params[j]? = some t → args[j]? = some v → Value.okWide Try.prog W .any base t v := hval0
  have hW' := hW
  obtain ⟨p, q, hA0, hV, rfl, hfz, hnd⟩ := hW
  have hA : DataW.TrodAll enc Try.prog W 0 (fun _ => true) true Try.f6.params.toList args.toList ds p := hA0
  rw [Try.params6] at hA hval hsz
  obtain ⟨v0, vs0, d0, ds0, p0, q0, hargs, rfl, rfl, h0, r0⟩ := trodAll_cons hA
  obtain ⟨v1, vs1, d1, ds1, p1, q1, rfl, rfl, rfl, h1, r1⟩ := trodAll_cons r0
  obtain ⟨v2, vs2, d2, ds2, p2, q2, rfl, rfl, rfl, h2, r2⟩ := trodAll_cons r1
  obtain ⟨v3, vs3, d3, ds3, p3, q3, rfl, rfl, rfl, h3, r3⟩ := trodAll_cons r2
  obtain ⟨rfl, rfl, rfl⟩ := trodAll_nil r3
  obtain rfl : args = #[v0, v1, v2, v3] := by cases args; simp_all
  obtain ⟨rfl, rfl⟩ := trodVars_none hV
  have k0 := h0
  have lt0 : ∀ x ∈ p0, x.block < W.heap.size := by obtain ⟨m, hm⟩ := k0; exact DataW.trod_lt m _ _ _ hm
  have hwt0 : ∀ n ∈ d0.weights Try.prog 58, n ≤ reachBytes := fun n hn => of_decide_eq_true (List.all_eq_true.1 hsz n (DataW.weights_mem_each (j := 0) rfl rfl n hn))
  obtain ⟨fuel0, hf0⟩ := h0
  obtain ⟨A0', n0, c0', rfl⟩ := okWide_slice Try.underlying58 (hval 0 58 v0 rfl rfl)
  obtain ⟨a0, ⟨A0, c0, he0, R0⟩, w0⟩ := (opens_slice 24 Try.underlying58 (by kernel_rfl) (by decide) (by kernel_rfl) (opens_slice 1 Try.underlying27 (by kernel_rfl) (by decide) (by kernel_rfl) (opens_int Try.underlying5))) H enc W 0 (fun _ => true) true fuel0 _ (d0, p0) hf0 hwt0
  obtain ⟨rfl, rfl, rfl⟩ : A0' = A0 ∧ n0 = a0.length ∧ c0' = c0 := by simpa [Value.cells] using he0
  have k1 := h1
  have lt1 : ∀ x ∈ p1, x.block < W.heap.size := by obtain ⟨m, hm⟩ := k1; exact DataW.trod_lt m _ _ _ hm
  have hwt1 : ∀ n ∈ d1.weights Try.prog 27, n ≤ reachBytes := fun n hn => of_decide_eq_true (List.all_eq_true.1 hsz n (DataW.weights_mem_each (j := 1) rfl rfl n hn))
  obtain ⟨fuel1, hf1⟩ := h1
  obtain ⟨A1', n1, c1', rfl⟩ := okWide_slice Try.underlying27 (hval 1 27 v1 rfl rfl)
  obtain ⟨a1, ⟨A1, c1, he1, R1⟩, w1⟩ := (opens_slice 1 Try.underlying27 (by kernel_rfl) (by decide) (by kernel_rfl) (opens_int Try.underlying5)) H enc W 0 (fun _ => true) true fuel1 _ (d1, p1) hf1 hwt1
  obtain ⟨rfl, rfl, rfl⟩ : A1' = A1 ∧ n1 = a1.length ∧ c1' = c1 := by simpa [Value.cells] using he1
  obtain ⟨a2, rfl, rfl, rfl, w2⟩ := open_int Try.underlying3 (hval 2 3 v2 rfl rfl) h2
  have k3 := h3
  have lt3 : ∀ x ∈ p3, x.block < W.heap.size := by obtain ⟨m, hm⟩ := k3; exact DataW.trod_lt m _ _ _ hm
  have hwt3 : ∀ n ∈ d3.weights Try.prog 59, n ≤ reachBytes := fun n hn => of_decide_eq_true (List.all_eq_true.1 hsz n (DataW.weights_mem_each (j := 3) rfl rfl n hn))
  obtain ⟨fuel3, hf3⟩ := h3
  obtain ⟨A3', n3, c3', rfl⟩ := okWide_slice Try.underlying59 (hval 3 59 v3 rfl rfl)
  obtain ⟨a3, ⟨A3, c3, he3, R3⟩, w3⟩ := (opens_slice 8 Try.underlying59 (by kernel_rfl) (by decide) (by kernel_rfl) (opens_int Try.underlying3)) H enc W 0 (fun _ => true) true fuel3 _ (d3, p3) hf3 hwt3
  obtain ⟨rfl, rfl, rfl⟩ : A3' = A3 ∧ n3 = a3.length ∧ c3' = c3 := by simpa [Value.cells] using he3
  clear hA0 hval0 hsz0 hsz
  obtain ⟨K, h⟩ := Pure.CkptCuts a0 a1 a2 a3 w0 w1 w2 w3
  have hC := haywainlaw14_CkptCuts.con K a0 a1 a2 a3 (A0', c0') (A1', c1') (A3', c3') true (fun _ _ => False) W (St.begin ⟨fun w' hw => R0.mono hw, fun w' hw => R1.mono hw, fun w' hw => R3.mono hw, trivial⟩) h rfl
  refine (Cn.below hC).mono fun e W' ⟨he, bel⟩ => ?_
  subst he
  exact ⟨_, rfl, _, _, _, [], _, [], hW', trodAll_mk1 (shut_bool Try.underlying4 _), (trodAll_cons_mk (Below.trod laidOut (by kernel_rfl) (of_decide_eq_true (by kernel_rfl)) k0 bel lt0) (trodAll_cons_mk (Below.trod laidOut (by kernel_rfl) (of_decide_eq_true (by kernel_rfl)) k1 bel lt1) (trodAll_cons_mk (shut_int Try.underlying3 w2) (trodAll_cons_mk (Below.trod laidOut (by kernel_rfl) (of_decide_eq_true (by kernel_rfl)) k3 bel lt3) trodAll_mk0)))), rfl, bel.frame _, fun h => by cases h⟩
theorem over : Rows.ckptCutsRow.holds Try.pinned (OpenSpec.ofChange Rows.ckptCutsSpec) :=
  OpenClaim.holds_of_wide 6 Try.f6 rfl rfl rfl rfl rfl rfl rfl ⟨rfl, rfl, rfl, rfl, rfl⟩ rfl rfl rfl rfl rfl (by kernel_rfl) Try.func6 (by kernel_rfl)
    (of_decide_eq_true (by kernel_rfl)) (by unfold Func.isWrapper; first | (rw [if_pos (by decide +kernel)]; kernel_rfl) | (rw [if_neg (by decide +kernel)]; exact ⟨rfl, rfl⟩))
    (fun os started H enc _ => lifted os started H enc)
theorem proved : Rows.CkptCutsSaid := over
#print axioms proved
end Go.Proofs.Ytkcpbehgjbionaa.ckptCuts
namespace Go.Proofs.Ytkcpbehgjbionaa
/-- The row, under a short name, for the claim. -/
theorem ckptCuts_holds : Rows.CkptCutsSaid := ckptCuts.proved
end Go.Proofs.Ytkcpbehgjbionaa
