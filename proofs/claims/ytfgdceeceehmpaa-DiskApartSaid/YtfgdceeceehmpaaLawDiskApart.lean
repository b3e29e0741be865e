/- THE ROW OF THE LAW DiskApart, out of its contract and its plain statement. -/
import Derived.Test.YtfgdceeceehmpaaRows
import Derived.Test.YtfgdceeceehmpaaLDiskApart
import Derived.Test.YtfgdceeceehmpaaPureDiskApart
import Derived.Test.YtfgdceeceehmpaaHwOpen
import Derived.WalkKit
import Derived.ProofKit
import Derived.OpenShut
import Derived.ShutString
import Derived.ChangeOld
import Derived.Below
import Derived.SizedLaws
namespace Go.Proofs.Ytfgdceeceehmpaa.diskApart
open Go.ChangeShapes Go.WideShapes Go.ChangeAt Go.RowKit Go.Hw Go.Proofs.Ytfgdceeceehmpaa.G Go.Proofs.Ytfgdceeceehmpaa
open Go.ChangeMaps (open_string shut_string)
set_option linter.unusedVariables false
theorem own : ownKnob Try.prog.godebug = none := by kernel_rfl
theorem laidOut : laidOutB Try.prog = true := by kernel_rfl
theorem opens_st43 : Opens Try.prog 43 kd43 wf43 := by
  intro H enc W base spare held fuel cs y h hw
  have hl : cs.length = 3 := (length_of Try.underlying43 h).trans (by kernel_rfl)
  obtain ⟨n0, y0, e0, q0⟩ := field_of Try.underlying43 h hw 0 _ rfl 0 1 rfl (by kernel_rfl)
  obtain ⟨v0, K0, w0⟩ := (opens_string Try.underlying9) H enc W base spare held n0 _ y0 e0 q0
  have E0 := K0
  obtain ⟨n1, y1, e1, q1⟩ := field_of Try.underlying43 h hw 1 _ rfl 1 1 rfl (by kernel_rfl)
  obtain ⟨v1, K1, w1⟩ := (opens_slice 1 Try.underlying30 (by kernel_rfl) (by decide) (by kernel_rfl) (opens_int Try.underlying5)) H enc W base spare held n1 _ y1 e1 q1
  obtain ⟨A1, c1, E1, R1⟩ := K1
  obtain ⟨n2, y2, e2, q2⟩ := field_of Try.underlying43 h hw 2 _ rfl 2 1 rfl (by kernel_rfl)
  obtain ⟨v2, K2, w2⟩ := (opens_int Try.underlying3) H enc W base spare held n2 _ y2 e2 q2
  have E2 := K2
  have hc : cs.drop 0 = _ := (cat_cells E0 (cat_cells E1 (cat_cells E2 (no_cells hl))))
  rw [List.drop_zero] at hc
  exact ⟨⟨v0, v1, v2⟩, ⟨(A1, c1), hc, R1⟩, ⟨w0, w1, w2⟩⟩
theorem opens_st24 : Opens Try.prog 24 kd24 wf24 := by
  intro H enc W base spare held fuel cs y h hw
  have hl : cs.length = 1 := (length_of Try.underlying24 h).trans (by kernel_rfl)
  obtain ⟨n0, y0, e0, q0⟩ := field_of Try.underlying24 h hw 0 _ rfl 0 1 rfl (by kernel_rfl)
  obtain ⟨v0, K0, w0⟩ := (opens_slice 48 Try.underlying22 (by kernel_rfl) (by decide) (by kernel_rfl) opens_st43) H enc W base spare held n0 _ y0 e0 q0
  obtain ⟨A0, c0, E0, R0⟩ := K0
  have hc : cs.drop 0 = _ := (cat_cells E0 (no_cells hl))
  rw [List.drop_zero] at hc
  exact ⟨⟨v0⟩, ⟨(A0, c0), hc, R0⟩, w0⟩
theorem opens_st52 : Opens Try.prog 52 kd52 wf52 := by
  intro H enc W base spare held fuel cs y h hw
  have hl : cs.length = 5 := (length_of Try.underlying52 h).trans (by kernel_rfl)
  obtain ⟨n0, y0, e0, q0⟩ := field_of Try.underlying52 h hw 0 _ rfl 0 1 rfl (by kernel_rfl)
  obtain ⟨v0, K0, w0⟩ := (opens_int Try.underlying3) H enc W base spare held n0 _ y0 e0 q0
  have E0 := K0
  obtain ⟨n1, y1, e1, q1⟩ := field_of Try.underlying52 h hw 1 _ rfl 1 1 rfl (by kernel_rfl)
  obtain ⟨v1, K1, w1⟩ := (opens_int Try.underlying3) H enc W base spare held n1 _ y1 e1 q1
  have E1 := K1
  obtain ⟨n2, y2, e2, q2⟩ := field_of Try.underlying52 h hw 2 _ rfl 2 1 rfl (by kernel_rfl)
  obtain ⟨v2, K2, w2⟩ := (opens_string Try.underlying9) H enc W base spare held n2 _ y2 e2 q2
  have E2 := K2
  obtain ⟨n3, y3, e3, q3⟩ := field_of Try.underlying52 h hw 3 _ rfl 3 1 rfl (by kernel_rfl)
  obtain ⟨v3, K3, w3⟩ := (opens_slice 1 Try.underlying30 (by kernel_rfl) (by decide) (by kernel_rfl) (opens_int Try.underlying5)) H enc W base spare held n3 _ y3 e3 q3
  obtain ⟨A3, c3, E3, R3⟩ := K3
  obtain ⟨n4, y4, e4, q4⟩ := field_of Try.underlying52 h hw 4 _ rfl 4 1 rfl (by kernel_rfl)
  obtain ⟨v4, K4, w4⟩ := (opens_slice 8 Try.underlying41 (by kernel_rfl) (by decide) (by kernel_rfl) (opens_int Try.underlying3)) H enc W base spare held n4 _ y4 e4 q4
  obtain ⟨A4, c4, E4, R4⟩ := K4
  have hc : cs.drop 0 = _ := (cat_cells E0 (cat_cells E1 (cat_cells E2 (cat_cells E3 (cat_cells E4 (no_cells hl))))))
  rw [List.drop_zero] at hc
  exact ⟨⟨v0, v1, v2, v3, v4⟩, ⟨(A3, c3), (A4, c4), hc, R3, R4⟩, ⟨w0, w1, w2, w3, w4⟩⟩
set_option maxRecDepth 100000 in
theorem lifted (os : Os) (started : os.Started) (H : Type) (enc : TypeId × Value → H) :
    ReturnsInHanded {} Try.checked os 7 .any (Rows.diskApartSpec.pre6 enc Try.prog Try.f7 Rows.diskApartRow.domain false) (Rows.diskApartSpec.post enc Try.prog Try.f7 false true false false) := by
  refine returnsInHanded_of_change_sized (C := Try.checked) own started (by kernel_rfl) Try.func7
    (ChangeSpec.witness6 (enc := enc) (C := Try.checked) false ⟨#[], #[.agg #[.slice none 0 0], .agg #[.int .i64 0, .int .i64 0, .string ByteArray.empty, .slice none 0 0, .slice none 0 0], .string ByteArray.empty], []⟩ 8 (by kernel_rfl) (by kernel_rfl) (by kernel_rfl) (by kernel_rfl)) ?_
  intro W base args ds gs before hval0 hW hcnd hsz0 _
  have hsz : (DataW.weightsEach Try.prog (Try.f7.params.toList ++ Rows.diskApartSpec.plain.varTypes Try.prog) (ds ++ gs)).all (· ≤ reachBytes) = true := hsz0
  have hval : ∀ (j : Nat) t v, Try.f7.params[j]? = some t → args[j]? = some v → Value.okWide Try.prog W .any base t v := hval0
  have hW' := hW
  obtain ⟨p, q, hA0, hV, rfl, hfz, hnd⟩ := hW
  have hA : DataW.TrodAll enc Try.prog W 0 (fun _ => true) true Try.f7.params.toList args.toList ds p := hA0
  rw [Try.params7] at hA hval hsz
  obtain ⟨v0, vs0, d0, ds0, p0, q0, hargs, rfl, rfl, h0, r0⟩ := trodAll_cons hA
  obtain ⟨v1, vs1, d1, ds1, p1, q1, rfl, rfl, rfl, h1, r1⟩ := trodAll_cons r0
  obtain ⟨v2, vs2, d2, ds2, p2, q2, rfl, rfl, rfl, h2, r2⟩ := trodAll_cons r1
  obtain ⟨rfl, rfl, rfl⟩ := trodAll_nil r2
  obtain rfl : args = #[v0, v1, v2] := by cases args; simp_all
  obtain ⟨rfl, rfl⟩ := trodVars_none hV
  have k0 := h0
  have lt0 : ∀ x ∈ p0, x.block < W.heap.size := by obtain ⟨m, hm⟩ := k0; exact DataW.trod_lt m _ _ _ hm
  have hwt0 : ∀ n ∈ d0.weights Try.prog 24, n ≤ reachBytes := fun n hn => of_decide_eq_true (List.all_eq_true.1 hsz n (DataW.weights_mem_each (j := 0) rfl rfl n hn))
  obtain ⟨fuel0, hf0⟩ := h0
  obtain ⟨cs0, rfl, hs0⟩ := okWide_struct Try.underlying24 (hval 0 24 v0 rfl rfl)
  have hf0' : DataW.trod enc Try.prog W 0 (fun _ => true) true fuel0 24 cs0.toList = some (d0, p0) := by simpa [Value.cells] using hf0
  obtain ⟨a0, K0, w0⟩ := opens_st24 H enc W 0 (fun _ => true) true fuel0 _ (d0, p0) hf0' hwt0
  obtain ⟨g0_0, E0, R0_0⟩ := K0
  obtain ⟨l0⟩ := cs0
  obtain rfl : l0 = _ := E0
  have k1 := h1
  have lt1 : ∀ x ∈ p1, x.block < W.heap.size := by obtain ⟨m, hm⟩ := k1; exact DataW.trod_lt m _ _ _ hm
  have hwt1 : ∀ n ∈ d1.weights Try.prog 52, n ≤ reachBytes := fun n hn => of_decide_eq_true (List.all_eq_true.1 hsz n (DataW.weights_mem_each (j := 1) rfl rfl n hn))
  obtain ⟨fuel1, hf1⟩ := h1
  obtain ⟨cs1, rfl, hs1⟩ := okWide_struct Try.underlying52 (hval 1 52 v1 rfl rfl)
  have hf1' : DataW.trod enc Try.prog W 0 (fun _ => true) true fuel1 52 cs1.toList = some (d1, p1) := by simpa [Value.cells] using hf1
  obtain ⟨a1, K1, w1⟩ := opens_st52 H enc W 0 (fun _ => true) true fuel1 _ (d1, p1) hf1' hwt1
  obtain ⟨g1_3, g1_4, E1, R1_3, R1_4⟩ := K1
  obtain ⟨l1⟩ := cs1
  obtain rfl : l1 = _ := E1
  obtain ⟨a2, rfl, rfl, rfl, z2⟩ := open_string Try.underlying9 (hval 2 9 v2 rfl rfl) h2
  have w2 : a2.size ≤ 140737488351232 := by
    have z := sized_string hsz (j := 2) (t := 9) rfl rfl
    rw [Array.length_toList] at z
    exact z
  clear hA0 hval0 hsz0 hsz
  obtain ⟨K, h⟩ := Pure.DiskApart a0 a1 a2 w0 w1 w2
  have hC := haywainlaw13_DiskApart.con K a0 a1 a2 g0_0 g1_3 g1_4 true (fun _ _ => False) W (St.begin ⟨fun w' hw => R0_0.mono hw, fun w' hw => R1_3.mono hw, fun w' hw => R1_4.mono hw, trivial⟩) h
  refine (Cn.below hC).mono fun e W' ⟨he, bel⟩ => ?_
  subst he
  exact ⟨_, rfl, _, _, _, [], _, [], hW', trodAll_mk1 (shut_bool Try.underlying4 _), (trodAll_cons_mk (Below.trod laidOut (by kernel_rfl) (of_decide_eq_true (by kernel_rfl)) k0 bel lt0) (trodAll_cons_mk (Below.trod laidOut (by kernel_rfl) (of_decide_eq_true (by kernel_rfl)) k1 bel lt1) (trodAll_cons_mk (shut_string Try.underlying9 z2) trodAll_mk0))), rfl, bel.frame _, fun h => by cases h⟩
theorem over : Rows.diskApartRow.holds Try.pinned (OpenSpec.ofChange Rows.diskApartSpec) :=
  OpenClaim.holds_of_wide 7 Try.f7 rfl rfl rfl rfl rfl rfl rfl ⟨rfl, rfl, rfl, rfl, rfl⟩ rfl rfl rfl rfl rfl (by kernel_rfl) Try.func7 (by kernel_rfl)
    (of_decide_eq_true (by kernel_rfl)) (by unfold Func.isWrapper; first | (rw [if_pos (by decide +kernel)]; kernel_rfl) | (rw [if_neg (by decide +kernel)]; exact ⟨rfl, rfl⟩))
    (fun os started H enc _ => lifted os started H enc)
theorem proved : Rows.DiskApartSaid := over
#print axioms proved
end Go.Proofs.Ytfgdceeceehmpaa.diskApart
namespace Go.Proofs.Ytfgdceeceehmpaa
/-- The row, under a short name, for the claim. -/
theorem diskApart_holds : Rows.DiskApartSaid := diskApart.proved
end Go.Proofs.Ytfgdceeceehmpaa
