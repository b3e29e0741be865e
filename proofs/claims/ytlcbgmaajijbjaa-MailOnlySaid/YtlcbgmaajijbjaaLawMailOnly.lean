/- THE ROW OF THE LAW MailOnly, out of its contract and its plain statement. -/
import Derived.Test.YtlcbgmaajijbjaaRows
import Derived.Test.YtlcbgmaajijbjaaLMailOnly
import Derived.Test.YtlcbgmaajijbjaaPureMailOnly
import Derived.Test.YtlcbgmaajijbjaaHwOpen
import Derived.WalkKit
import Derived.ProofKit
import Derived.OpenShut
import Derived.ShutString
import Derived.ChangeOld
import Derived.Below
import Derived.SizedLaws
namespace Go.Proofs.Ytlcbgmaajijbjaa.mailOnly
open Go.ChangeShapes Go.WideShapes Go.ChangeAt Go.RowKit Go.Hw Go.Proofs.Ytlcbgmaajijbjaa.G Go.Proofs.Ytlcbgmaajijbjaa
open Go.ChangeMaps (open_string shut_string)
set_option linter.unusedVariables false
theorem own : ownKnob Try.prog.godebug = none := by kernel_rfl
theorem laidOut : laidOutB Try.prog = true := by kernel_rfl
set_option maxRecDepth 100000 in
theorem lifted (os : Os) (started : os.Started) (H : Type) (enc : TypeId × Value → H) :
    ReturnsInHanded {} Try.checked os 7 .any (Rows.mailOnlySpec.pre6 enc Try.prog Try.f7 Rows.mailOnlyRow.domain false) (Rows.mailOnlySpec.post enc Try.prog Try.f7 false true false false) := by
  refine returnsInHanded_of_change_sized (C := Try.checked) own started (by kernel_rfl) Try.func7
    (ChangeSpec.witness6 (enc := enc) (C := Try.checked) false ⟨#[], #[.slice none 0 0, .int .i64 0], []⟩ 8 (by kernel_rfl) (by kernel_rfl) (by kernel_rfl) (by kernel_rfl)) ?_
  intro W base args ds gs before hval0 hW hcnd hsz0 _
  have hsz : (DataW.weightsEach Try.prog (Try.f7.params.toList ++ Rows.mailOnlySpec.plain.varTypes Try.prog) (ds ++ gs)).all (· ≤ reachBytes) = true := hsz0
  have hval : ∀ (j : Nat) t v, Try.f7.params[j]? = some t → args[j]? = some v → Value.okWide Try.prog W .any base t v := hval0
  have hW' := hW
  obtain ⟨p, q, hA0, hV, rfl, hfz, hnd⟩ := hW
  have hA : DataW.TrodAll enc Try.prog W 0 (fun _ => true) true Try.f7.params.toList args.toList ds p := hA0
  rw [Try.params7] at hA hval hsz
  obtain ⟨v0, vs0, d0, ds0, p0, q0, hargs, rfl, rfl, h0, r0⟩ := trodAll_cons hA
  obtain ⟨v1, vs1, d1, ds1, p1, q1, rfl, rfl, rfl, h1, r1⟩ := trodAll_cons r0
  obtain ⟨rfl, rfl, rfl⟩ := trodAll_nil r1
  obtain rfl : args = #[v0, v1] := by cases args; simp_all
  obtain ⟨rfl, rfl⟩ := trodVars_none hV
  have k0 := h0
  have lt0 : ∀ x ∈ p0, x.block < W.heap.size := by obtain ⟨m, hm⟩ := k0; exact DataW.trod_lt m _ _ _ hm
  have hwt0 : ∀ n ∈ d0.weights Try.prog 36, n ≤ reachBytes := fun n hn => of_decide_eq_true (List.all_eq_true.1 hsz n (DataW.weights_mem_each (j := 0) rfl rfl n hn))
  obtain ⟨fuel0, hf0⟩ := h0
  obtain ⟨A0', n0, c0', rfl⟩ := okWide_slice Try.underlying36 (hval 0 36 v0 rfl rfl)
  obtain ⟨a0, ⟨A0, c0, he0, R0⟩, w0⟩ := (opens_slice 1 Try.underlying36 (by kernel_rfl) (by decide) (by kernel_rfl) (opens_int Try.underlying5)) H enc W 0 (fun _ => true) true fuel0 _ (d0, p0) hf0 hwt0
  obtain ⟨rfl, rfl, rfl⟩ : A0' = A0 ∧ n0 = a0.length ∧ c0' = c0 := by simpa [Value.cells] using he0
  obtain ⟨a1, rfl, rfl, rfl, w1⟩ := open_int Try.underlying3 (hval 1 3 v1 rfl rfl) h1
  clear hA0 hval0 hsz0 hsz
  obtain ⟨K, h⟩ := Pure.MailOnly a0 a1 w0 w1
  have hC := haywainlaw15_MailOnly.con K a0 a1 (A0', c0') true (fun _ _ => False) W (St.begin ⟨fun w' hw => R0.mono hw, trivial⟩) h
  refine (Cn.below hC).mono fun e W' ⟨he, bel⟩ => ?_
  subst he
  exact ⟨_, rfl, _, _, _, [], _, [], hW', trodAll_mk1 (shut_bool Try.underlying4 _), (trodAll_cons_mk (Below.trod laidOut (by kernel_rfl) (of_decide_eq_true (by kernel_rfl)) k0 bel lt0) (trodAll_cons_mk (shut_int Try.underlying3 w1) trodAll_mk0)), rfl, bel.frame _, fun h => by cases h⟩
theorem over : Rows.mailOnlyRow.holds Try.pinned (OpenSpec.ofChange Rows.mailOnlySpec) :=
  OpenClaim.holds_of_wide 7 Try.f7 rfl rfl rfl rfl rfl rfl rfl ⟨rfl, rfl, rfl, rfl, rfl⟩ rfl rfl rfl rfl rfl (by kernel_rfl) Try.func7 (by kernel_rfl)
    (of_decide_eq_true (by kernel_rfl)) (by unfold Func.isWrapper; first | (rw [if_pos (by decide +kernel)]; kernel_rfl) | (rw [if_neg (by decide +kernel)]; exact ⟨rfl, rfl⟩))
    (fun os started H enc _ => lifted os started H enc)
theorem proved : Rows.MailOnlySaid := over
#print axioms proved
end Go.Proofs.Ytlcbgmaajijbjaa.mailOnly
namespace Go.Proofs.Ytlcbgmaajijbjaa
/-- The row, under a short name, for the claim. -/
theorem mailOnly_holds : Rows.MailOnlySaid := mailOnly.proved
end Go.Proofs.Ytlcbgmaajijbjaa
