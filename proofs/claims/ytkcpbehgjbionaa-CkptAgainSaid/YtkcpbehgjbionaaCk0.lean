/- Checkpoints, in plain Lean: the examples; what is too great. -/
import Derived.Test.YtkcpbehgjbionaaCk2
set_option linter.unusedVariables false
set_option linter.unusedSimpArgs false
namespace Go.Proofs.Ytkcpbehgjbionaa.Pure
open Go Go.RowKit Go.Hw Go.Proofs.Ytkcpbehgjbionaa.G
set_option maxRecDepth 100000 in
theorem knows_f : ∃ K, 30000 ≤ K ∧ haywainlaw14_knows.f K = some true := ⟨30000, Nat.le_refl _, by kernel_rfl⟩
theorem BD_repl {l : List S70} (h : BD l) {n : ByteArray} {x : S70} (hx : Bytes x.f1) : BD (repl l n x) := by
  intro y hy
  simp only [repl, List.mem_append, List.mem_singleton] at hy
  rcases hy with (hy | hy) | hy
  · exact h y (lo_mem hy)
  · rw [hy]; exact hx
  · exact h y (hi_mem hy)
theorem BD_doC {l : List S70} (h : BD l) {c : S48} (hc : Bytes c.f2) : BD (doC l c).1 := by
  have ho := BD_own h
  unfold doC
  split
  · unfold dropS
    split
    · exact ho
    · intro y hy
      rcases List.mem_append.1 hy with hy | hy
      · exact ho y (lo_mem hy)
      · exact ho y (hi_mem hy)
  · split
    · unfold putS
      split
      · exact ho
      · split
        · split
          · exact ho
          · exact BD_repl ho hc
        · rename_i x r e
          split
          · exact ho
          · exact BD_repl ho ((ho x (mi_mem (n := c.f1.toList) (by rw [e]; exact List.mem_cons_self))).append hc)
    · split
      · unfold syncS
        split
        · exact ho
        · rename_i x r e
          exact BD_repl ho (ho x (mi_mem (n := c.f1.toList) (by rw [e]; exact List.mem_cons_self)))
      · exact h
theorem own_len (l : List S70) : (own l).length ≤ 1000 := by have := (own_RD l).len; omega
theorem chg_len (l : List S70) (num : Int) (p : List Int) : (saveS (own l) num p).1.length ≤ 100 := by
  have h0 := (own_RD l).len
  unfold saveS
  split
  · simp
  · split
    · simp
    · split
      · simp
      · split
        · simp
        · have h1 := nameOut_len (fileB num) (own l)
          have h2 := gone_len (fileB num) (own l)
          simp only [chg, core, List.length_append, List.length_cons, List.length_nil]
          omega
end Go.Proofs.Ytkcpbehgjbionaa.Pure
