/- THE ROW OF THE LAW MailBack, out of its contract and its plain statement. -/
import Derived.Test.YtlcbgmaajijbjaaRows
import Derived.Test.YtlcbgmaajijbjaaLMailBack
import Derived.Test.YtlcbgmaajijbjaaPureMailBack
import Derived.Test.YtlcbgmaajijbjaaHwOpen
import Derived.WalkKit
import Derived.ProofKit
import Derived.OpenShut
import Derived.ShutString
import Derived.ChangeOld
import Derived.Below
import Derived.SizedLaws
namespace Go.Proofs.Ytlcbgmaajijbjaa.mailBack
open Go.ChangeShapes Go.WideShapes Go.ChangeAt Go.RowKit Go.Hw Go.Proofs.Ytlcbgmaajijbjaa.G Go.Proofs.Ytlcbgmaajijbjaa
open Go.ChangeMaps (open_string shut_string)
set_option linter.unusedVariables false
theorem own : ownKnob Try.prog.godebug = none := by kernel_rfl
theorem laidOut : laidOutB Try.prog = true := by kernel_rfl
theorem opens_st77 : Opens Try.prog 77 kd77 wf77 := by
  intro H enc W base spare held fuel cs y h hw
  have hl : cs.length = 2 := (length_of Try.underlying77 h).trans (by kernel_rfl)
  obtain ⟨n0, y0, e0, q0⟩ := field_of Try.underlying77 h hw 0 _ rfl 0 1 rfl (by kernel_rfl)
  obtain ⟨v0, K0, w0⟩ := (opens_int Try.underlying3) H enc W base spare held n0 _ y0 e0 q0
  have E0 := K0
  obtain ⟨n1, y1, e1, q1⟩ := field_of Try.underlying77 h hw 1 _ rfl 1 1 rfl (by kernel_rfl)
  obtain ⟨v1, K1, w1⟩ := (opens_int Try.underlying2) H enc W base spare held n1 _ y1 e1 q1
  have E1 := K1
  have hc : cs.drop 0 = _ := (cat_cells E0 (cat_cells E1 (no_cells hl)))
  rw [List.drop_zero] at hc
  exact ⟨⟨v0, v1⟩, hc, ⟨w0, w1⟩⟩
theorem opens_st27 : Opens Try.prog 27 kd27 wf27 := by
  intro H enc W base spare held fuel cs y h hw
  have hl : cs.length = 5 := (length_of Try.underlying27 h).trans (by kernel_rfl)
  obtain ⟨n0, y0, e0, q0⟩ := field_of Try.underlying27 h hw 0 _ rfl 0 1 rfl (by kernel_rfl)
  obtain ⟨v0, K0, w0⟩ := (opens_int Try.underlying3) H enc W base spare held n0 _ y0 e0 q0
  have E0 := K0
  obtain ⟨n1, y1, e1, q1⟩ := field_of Try.underlying27 h hw 1 _ rfl 1 1 rfl (by kernel_rfl)
  obtain ⟨v1, K1, w1⟩ := (opens_int Try.underlying3) H enc W base spare held n1 _ y1 e1 q1
  have E1 := K1
  obtain ⟨n2, y2, e2, q2⟩ := field_of Try.underlying27 h hw 2 _ rfl 2 1 rfl (by kernel_rfl)
  obtain ⟨v2, K2, w2⟩ := (opens_slice 8 Try.underlying23 (by kernel_rfl) (by decide) (by kernel_rfl) (opens_int Try.underlying2)) H enc W base spare held n2 _ y2 e2 q2
  obtain ⟨A2, c2, E2, R2⟩ := K2
  obtain ⟨n3, y3, e3, q3⟩ := field_of Try.underlying27 h hw 3 _ rfl 3 1 rfl (by kernel_rfl)
  obtain ⟨v3, K3, w3⟩ := (opens_slice 1 Try.underlying24 (by kernel_rfl) (by decide) (by kernel_rfl) (opens_bool Try.underlying4)) H enc W base spare held n3 _ y3 e3 q3
  obtain ⟨A3, c3, E3, R3⟩ := K3
  obtain ⟨n4, y4, e4, q4⟩ := field_of Try.underlying27 h hw 4 _ rfl 4 1 rfl (by kernel_rfl)
  obtain ⟨v4, K4, w4⟩ := (opens_slice 16 Try.underlying25 (by kernel_rfl) (by decide) (by kernel_rfl) opens_st77) H enc W base spare held n4 _ y4 e4 q4
  obtain ⟨A4, c4, E4, R4⟩ := K4
  have hc : cs.drop 0 = _ := (cat_cells E0 (cat_cells E1 (cat_cells E2 (cat_cells E3 (cat_cells E4 (no_cells hl))))))
  rw [List.drop_zero] at hc
  exact ⟨⟨v0, v1, v2, v3, v4⟩, ⟨(A2, c2), (A3, c3), (A4, c4), hc, R2, R3, R4⟩, ⟨w0, w1, w2, w3, w4⟩⟩
theorem opens_st29 : Opens Try.prog 29 kd29 wf29 := by
  intro H enc W base spare held fuel cs y h hw
  have hl : cs.length = 17 := (length_of Try.underlying29 h).trans (by kernel_rfl)
  obtain ⟨n0, y0, e0, q0⟩ := field_of Try.underlying29 h hw 0 _ rfl 0 1 rfl (by kernel_rfl)
  obtain ⟨v0, K0, w0⟩ := (opens_int Try.underlying3) H enc W base spare held n0 _ y0 e0 q0
  have E0 := K0
  obtain ⟨n1, y1, e1, q1⟩ := field_of Try.underlying29 h hw 1 _ rfl 1 1 rfl (by kernel_rfl)
  obtain ⟨v1, K1, w1⟩ := (opens_int Try.underlying3) H enc W base spare held n1 _ y1 e1 q1
  have E1 := K1
  obtain ⟨n2, y2, e2, q2⟩ := field_of Try.underlying29 h hw 2 _ rfl 2 1 rfl (by kernel_rfl)
  obtain ⟨v2, K2, w2⟩ := (opens_int Try.underlying3) H enc W base spare held n2 _ y2 e2 q2
  have E2 := K2
  obtain ⟨n3, y3, e3, q3⟩ := field_of Try.underlying29 h hw 3 _ rfl 3 1 rfl (by kernel_rfl)
  obtain ⟨v3, K3, w3⟩ := (opens_int Try.underlying3) H enc W base spare held n3 _ y3 e3 q3
  have E3 := K3
  obtain ⟨n4, y4, e4, q4⟩ := field_of Try.underlying29 h hw 4 _ rfl 4 1 rfl (by kernel_rfl)
  obtain ⟨v4, K4, w4⟩ := (opens_int Try.underlying3) H enc W base spare held n4 _ y4 e4 q4
  have E4 := K4
  obtain ⟨n5, y5, e5, q5⟩ := field_of Try.underlying29 h hw 5 _ rfl 5 1 rfl (by kernel_rfl)
  obtain ⟨v5, K5, w5⟩ := (opens_int Try.underlying3) H enc W base spare held n5 _ y5 e5 q5
  have E5 := K5
  obtain ⟨n6, y6, e6, q6⟩ := field_of Try.underlying29 h hw 6 _ rfl 6 1 rfl (by kernel_rfl)
  obtain ⟨v6, K6, w6⟩ := (opens_int Try.underlying3) H enc W base spare held n6 _ y6 e6 q6
  have E6 := K6
  obtain ⟨n7, y7, e7, q7⟩ := field_of Try.underlying29 h hw 7 _ rfl 7 1 rfl (by kernel_rfl)
  obtain ⟨v7, K7, w7⟩ := (opens_int Try.underlying3) H enc W base spare held n7 _ y7 e7 q7
  have E7 := K7
  obtain ⟨n8, y8, e8, q8⟩ := field_of Try.underlying29 h hw 8 _ rfl 8 1 rfl (by kernel_rfl)
  obtain ⟨v8, K8, w8⟩ := (opens_slice 8 Try.underlying22 (by kernel_rfl) (by decide) (by kernel_rfl) (opens_int Try.underlying3)) H enc W base spare held n8 _ y8 e8 q8
  obtain ⟨A8, c8, E8, R8⟩ := K8
  obtain ⟨n9, y9, e9, q9⟩ := field_of Try.underlying29 h hw 9 _ rfl 9 1 rfl (by kernel_rfl)
  obtain ⟨v9, K9, w9⟩ := (opens_slice 8 Try.underlying22 (by kernel_rfl) (by decide) (by kernel_rfl) (opens_int Try.underlying3)) H enc W base spare held n9 _ y9 e9 q9
  obtain ⟨A9, c9, E9, R9⟩ := K9
  obtain ⟨n10, y10, e10, q10⟩ := field_of Try.underlying29 h hw 10 _ rfl 10 1 rfl (by kernel_rfl)
  obtain ⟨v10, K10, w10⟩ := (opens_slice 8 Try.underlying22 (by kernel_rfl) (by decide) (by kernel_rfl) (opens_int Try.underlying3)) H enc W base spare held n10 _ y10 e10 q10
  obtain ⟨A10, c10, E10, R10⟩ := K10
  obtain ⟨n11, y11, e11, q11⟩ := field_of Try.underlying29 h hw 11 _ rfl 11 5 rfl (by kernel_rfl)
  obtain ⟨v11, K11, w11⟩ := opens_st27 H enc W base spare held n11 _ y11 e11 q11
  obtain ⟨h11_2, h11_3, h11_4, E11, R11_2, R11_3, R11_4⟩ := K11
  obtain ⟨n12, y12, e12, q12⟩ := field_of Try.underlying29 h hw 12 _ rfl 16 1 rfl (by kernel_rfl)
  obtain ⟨v12, K12, w12⟩ := (opens_slice 16 Try.underlying25 (by kernel_rfl) (by decide) (by kernel_rfl) opens_st77) H enc W base spare held n12 _ y12 e12 q12
  obtain ⟨A12, c12, E12, R12⟩ := K12
  have hc : cs.drop 0 = _ := (cat_cells E0 (cat_cells E1 (cat_cells E2 (cat_cells E3 (cat_cells E4 (cat_cells E5 (cat_cells E6 (cat_cells E7 (cat_cells E8 (cat_cells E9 (cat_cells E10 (cat_cells E11 (cat_cells E12 (no_cells hl))))))))))))))
  rw [List.drop_zero] at hc
  exact ⟨⟨v0, v1, v2, v3, v4, v5, v6, v7, v8, v9, v10, v11, v12⟩, ⟨(A8, c8), (A9, c9), (A10, c10), h11_2, h11_3, h11_4, (A12, c12), hc, R8, R9, R10, R11_2, R11_3, R11_4, R12⟩, ⟨w0, w1, w2, w3, w4, w5, w6, w7, w8, w9, w10, w11, w12⟩⟩
set_option maxRecDepth 100000 in
theorem lifted (os : Os) (started : os.Started) (H : Type) (enc : TypeId × Value → H) :
    ReturnsInHanded {} Try.checked os 6 .any (Rows.mailBackSpec.pre6 enc Try.prog Try.f6 Rows.mailBackRow.domain false) (Rows.mailBackSpec.post enc Try.prog Try.f6 false true false false) := by
  refine returnsInHanded_of_change_sized (C := Try.checked) own started (by kernel_rfl) Try.func6
    (ChangeSpec.witness6 (enc := enc) (C := Try.checked) false ⟨#[], #[.agg #[.int .i64 0, .int .i64 0, .int .i64 0, .int .i64 0, .int .i64 0, .int .i64 0, .int .i64 0, .int .i64 0, .slice none 0 0, .slice none 0 0, .slice none 0 0, .int .i64 0, .int .i64 0, .slice none 0 0, .slice none 0 0, .slice none 0 0, .slice none 0 0]], []⟩ 8 (by kernel_rfl) (by kernel_rfl) (by kernel_rfl) (by kernel_rfl)) ?_
  intro W base args ds gs before hval0 hW hcnd hsz0 _
  have hsz : (DataW.weightsEach Try.prog (Try.f6.params.toList ++ Rows.mailBackSpec.plain.varTypes Try.prog) (ds ++ gs)).all (· ≤ reachBytes) = true := hsz0
  have hval : ∀ (j : Nat) t v, Try.f6.params[j]? = some t → args[j]? = some v → Value.okWide Try.prog W .any base t v := hval0
  have hW' := hW
  obtain ⟨p, q, hA0, hV, rfl, hfz, hnd⟩ := hW
  have hA : DataW.TrodAll enc Try.prog W 0 (fun _ => true) true Try.f6.params.toList args.toList ds p := hA0
  rw [Try.params6] at hA hval hsz
  obtain ⟨v0, vs0, d0, ds0, p0, q0, hargs, rfl, rfl, h0, r0⟩ := trodAll_cons hA
  obtain ⟨rfl, rfl, rfl⟩ := trodAll_nil r0
  obtain rfl : args = #[v0] := by cases args; simp_all
  obtain ⟨rfl, rfl⟩ := trodVars_none hV
  have k0 := h0
  have lt0 : ∀ x ∈ p0, x.block < W.heap.size := by obtain ⟨m, hm⟩ := k0; exact DataW.trod_lt m _ _ _ hm
  have hwt0 : ∀ n ∈ d0.weights Try.prog 29, n ≤ reachBytes := fun n hn => of_decide_eq_true (List.all_eq_true.1 hsz n (DataW.weights_mem_each (j := 0) rfl rfl n hn))
  obtain ⟨fuel0, hf0⟩ := h0
  obtain ⟨cs0, rfl, hs0⟩ := okWide_struct Try.underlying29 (hval 0 29 v0 rfl rfl)
  have hf0' : DataW.trod enc Try.prog W 0 (fun _ => true) true fuel0 29 cs0.toList = some (d0, p0) := by simpa [Value.cells] using hf0
  obtain ⟨a0, K0, w0⟩ := opens_st29 H enc W 0 (fun _ => true) true fuel0 _ (d0, p0) hf0' hwt0
  obtain ⟨g0_8, g0_9, g0_10, g0_13, g0_14, g0_15, g0_16, E0, R0_8, R0_9, R0_10, R0_13, R0_14, R0_15, R0_16⟩ := K0
  obtain ⟨l0⟩ := cs0
  obtain rfl : l0 = _ := E0
  clear hA0 hval0 hsz0 hsz
  obtain ⟨K, h⟩ := Pure.MailBack a0 w0
  have hC := haywainlaw15_MailBack.con K a0 g0_8 g0_9 g0_10 g0_13 g0_14 g0_15 g0_16 true (fun _ _ => False) W (St.begin ⟨fun w' hw => R0_8.mono hw, fun w' hw => R0_9.mono hw, fun w' hw => R0_10.mono hw, fun w' hw => R0_13.mono hw, fun w' hw => R0_14.mono hw, fun w' hw => R0_15.mono hw, fun w' hw => R0_16.mono hw, trivial⟩) h
  refine (Cn.below hC).mono fun e W' ⟨he, bel⟩ => ?_
  subst he
  exact ⟨_, rfl, _, _, _, [], _, [], hW', trodAll_mk1 (shut_bool Try.underlying4 _), (trodAll_cons_mk (Below.trod laidOut (by kernel_rfl) (of_decide_eq_true (by kernel_rfl)) k0 bel lt0) trodAll_mk0), rfl, bel.frame _, fun h => by cases h⟩
theorem over : Rows.mailBackRow.holds Try.pinned (OpenSpec.ofChange Rows.mailBackSpec) :=
  OpenClaim.holds_of_wide 6 Try.f6 rfl rfl rfl rfl rfl rfl rfl ⟨rfl, rfl, rfl, rfl, rfl⟩ rfl rfl rfl rfl rfl (by kernel_rfl) Try.func6 (by kernel_rfl)
    (of_decide_eq_true (by kernel_rfl)) (by unfold Func.isWrapper; first | (rw [if_pos (by decide +kernel)]; kernel_rfl) | (rw [if_neg (by decide +kernel)]; exact ⟨rfl, rfl⟩))
    (fun os started H enc _ => lifted os started H enc)
theorem proved : Rows.MailBackSaid := over
#print axioms proved
end Go.Proofs.Ytlcbgmaajijbjaa.mailBack
namespace Go.Proofs.Ytlcbgmaajijbjaa
/-- The row, under a short name, for the claim. -/
theorem mailBack_holds : Rows.MailBackSaid := mailBack.proved
end Go.Proofs.Ytlcbgmaajijbjaa
