/-
  No cell of these rows narrows 'for every input' (looked for: loops, veiled, ifaces, maps, wideKeys, modest, calm, conditions, laid).
  DERIVED. THE GIVEN ROWS OF THIS SEAT. 6 by the template 'for every input the law returns true; each argument reads behind the call as it read before'; 0 by the template 'total and deterministic' (their statements: YtkcpbehgjbionaaTotals.lean).
  GIVEN WITH THE SEED: the statements are not yours to turn. If you find one false, say at which input.
  Laid BY PROGRAM, IN A SANDBOX (cutbox-rows.mjs): the forced cells as the released guide's own fill.sh prints them over the translation 6fe9c357b3753e2f… (all of the seat's roots in one cut). By AI agents, Wed Nov 11 2026. No macro, syntax, notation, axiom, sorry.
-/
import Derived.Test.YtkcpbehgjbionaaChecked
import GoSem.Claim
import GoSem.ClaimJoined
import GoSem.ClaimMapViews
import Derived.JoinedTies
import Derived.KernelRfl
namespace Go.Proofs.Ytkcpbehgjbionaa
/- THE CELL 'sum', in the pinned program and in every row, IS THE sha256 OF THE DUMP (.gsa) THAT YtkcpbehgjbionaaProg.lean LOADS. Nothing in Lean hashes anything: it is a label: what it is worth is what the hold of that sum in a sandbox is worth. -/
noncomputable def Try.pinned : Pinned := { name := "ytkcpbehgjbionaa", sum := "6fe9c357b3753e2f618a55d67731d36a451a8a065ff4a5f374881284eff954c3", checked := Try.checked }
namespace Rows
def none {H : Type} : Left H := { results := [], args := [] }

/-- 'haywainlaw14.CkptLasts': WHATEVER THE INPUT: true; the input reads as it did. -/
def ckptLastsSpec : ChangeSpec := { name := "ckptLasts", fn := fun _ => fun
  | [d1, d2] => { results := [.lit (.bool true)], args := [d1, d2] }
  | _ => none }
def ckptLastsRow : OpenClaim := { program := "ytkcpbehgjbionaa", sum := "6fe9c357b3753e2f618a55d67731d36a451a8a065ff4a5f374881284eff954c3", func := "haywain/haywainlaw14.CkptLasts", spec := "ckptLasts", unfollowed := true, recurses := true, apart := false }
def CkptLastsSaid : Prop := ckptLastsRow.holds Try.pinned (OpenSpec.ofChange ckptLastsSpec)

/-- ITS FALSE NEIGHBOUR: 'it returns false'. Refute it at one input. -/
def ckptLastsWrong : ChangeSpec := { name := "ckptLasts", fn := fun _ => fun
  | [d1, d2] => { results := [.lit (.bool false)], args := [d1, d2] }
  | _ => none }
def CkptLastsWrongFalsely : Prop := ckptLastsRow.holds Try.pinned (OpenSpec.ofChange ckptLastsWrong)

/-- 'haywainlaw14.CkptSaves': WHATEVER THE INPUT: true; the input reads as it did. -/
def ckptSavesSpec : ChangeSpec := { name := "ckptSaves", fn := fun _ => fun
  | [d1, d2, d3] => { results := [.lit (.bool true)], args := [d1, d2, d3] }
  | _ => none }
def ckptSavesRow : OpenClaim := { program := "ytkcpbehgjbionaa", sum := "6fe9c357b3753e2f618a55d67731d36a451a8a065ff4a5f374881284eff954c3", func := "haywain/haywainlaw14.CkptSaves", spec := "ckptSaves", unfollowed := true, recurses := true, apart := false }
def CkptSavesSaid : Prop := ckptSavesRow.holds Try.pinned (OpenSpec.ofChange ckptSavesSpec)

/-- ITS FALSE NEIGHBOUR: 'it returns false'. Refute it at one input. -/
def ckptSavesWrong : ChangeSpec := { name := "ckptSaves", fn := fun _ => fun
  | [d1, d2, d3] => { results := [.lit (.bool false)], args := [d1, d2, d3] }
  | _ => none }
def CkptSavesWrongFalsely : Prop := ckptSavesRow.holds Try.pinned (OpenSpec.ofChange ckptSavesWrong)

/-- 'haywainlaw14.CkptDoes': WHATEVER THE INPUT: true; the input reads as it did. -/
def ckptDoesSpec : ChangeSpec := { name := "ckptDoes", fn := fun _ => fun
  | [d1, d2, d3] => { results := [.lit (.bool true)], args := [d1, d2, d3] }
  | _ => none }
def ckptDoesRow : OpenClaim := { program := "ytkcpbehgjbionaa", sum := "6fe9c357b3753e2f618a55d67731d36a451a8a065ff4a5f374881284eff954c3", func := "haywain/haywainlaw14.CkptDoes", spec := "ckptDoes", unfollowed := true, recurses := true, apart := false }
def CkptDoesSaid : Prop := ckptDoesRow.holds Try.pinned (OpenSpec.ofChange ckptDoesSpec)

/-- ITS FALSE NEIGHBOUR: 'it returns false'. Refute it at one input. -/
def ckptDoesWrong : ChangeSpec := { name := "ckptDoes", fn := fun _ => fun
  | [d1, d2, d3] => { results := [.lit (.bool false)], args := [d1, d2, d3] }
  | _ => none }
def CkptDoesWrongFalsely : Prop := ckptDoesRow.holds Try.pinned (OpenSpec.ofChange ckptDoesWrong)

/-- 'haywainlaw14.CkptCuts': WHATEVER THE INPUT: true; the input reads as it did. -/
def ckptCutsSpec : ChangeSpec := { name := "ckptCuts", fn := fun _ => fun
  | [d1, d2, d3, d4] => { results := [.lit (.bool true)], args := [d1, d2, d3, d4] }
  | _ => none }
def ckptCutsRow : OpenClaim := { program := "ytkcpbehgjbionaa", sum := "6fe9c357b3753e2f618a55d67731d36a451a8a065ff4a5f374881284eff954c3", func := "haywain/haywainlaw14.CkptCuts", spec := "ckptCuts", unfollowed := true, recurses := true, apart := false }
def CkptCutsSaid : Prop := ckptCutsRow.holds Try.pinned (OpenSpec.ofChange ckptCutsSpec)

/-- ITS FALSE NEIGHBOUR: 'it returns false'. Refute it at one input. -/
def ckptCutsWrong : ChangeSpec := { name := "ckptCuts", fn := fun _ => fun
  | [d1, d2, d3, d4] => { results := [.lit (.bool false)], args := [d1, d2, d3, d4] }
  | _ => none }
def CkptCutsWrongFalsely : Prop := ckptCutsRow.holds Try.pinned (OpenSpec.ofChange ckptCutsWrong)

/-- 'haywainlaw14.CkptAgain': WHATEVER THE INPUT: true; the input reads as it did. -/
def ckptAgainSpec : ChangeSpec := { name := "ckptAgain", fn := fun _ => fun
  | [d1, d2, d3, d4, d5] => { results := [.lit (.bool true)], args := [d1, d2, d3, d4, d5] }
  | _ => none }
def ckptAgainRow : OpenClaim := { program := "ytkcpbehgjbionaa", sum := "6fe9c357b3753e2f618a55d67731d36a451a8a065ff4a5f374881284eff954c3", func := "haywain/haywainlaw14.CkptAgain", spec := "ckptAgain", unfollowed := true, recurses := true, apart := false }
def CkptAgainSaid : Prop := ckptAgainRow.holds Try.pinned (OpenSpec.ofChange ckptAgainSpec)

/-- ITS FALSE NEIGHBOUR: 'it returns false'. Refute it at one input. -/
def ckptAgainWrong : ChangeSpec := { name := "ckptAgain", fn := fun _ => fun
  | [d1, d2, d3, d4, d5] => { results := [.lit (.bool false)], args := [d1, d2, d3, d4, d5] }
  | _ => none }
def CkptAgainWrongFalsely : Prop := ckptAgainRow.holds Try.pinned (OpenSpec.ofChange ckptAgainWrong)

/-- 'haywainlaw14.CkptLater': WHATEVER THE INPUT: true; the input reads as it did. -/
def ckptLaterSpec : ChangeSpec := { name := "ckptLater", fn := fun _ => fun
  | [d1, d2, d3] => { results := [.lit (.bool true)], args := [d1, d2, d3] }
  | _ => none }
def ckptLaterRow : OpenClaim := { program := "ytkcpbehgjbionaa", sum := "6fe9c357b3753e2f618a55d67731d36a451a8a065ff4a5f374881284eff954c3", func := "haywain/haywainlaw14.CkptLater", spec := "ckptLater", unfollowed := true, recurses := true, apart := false }
def CkptLaterSaid : Prop := ckptLaterRow.holds Try.pinned (OpenSpec.ofChange ckptLaterSpec)

/-- ITS FALSE NEIGHBOUR: 'it returns false'. Refute it at one input. -/
def ckptLaterWrong : ChangeSpec := { name := "ckptLater", fn := fun _ => fun
  | [d1, d2, d3] => { results := [.lit (.bool false)], args := [d1, d2, d3] }
  | _ => none }
def CkptLaterWrongFalsely : Prop := ckptLaterRow.holds Try.pinned (OpenSpec.ofChange ckptLaterWrong)

/- THE SECOND FORM. 'bulk': how many values and letters a reading holds, each counted each time it is reached (what is shared counts as often as it is met; a slice's spare places count too). A statement '..UptoSaid' is the law's where the arguments, and the package variables that the reading takes, are together of bulk at most 1048576: NARROWER than '..Said'. Prove '..Said' where nothing that the law and all that it calls make is longer than what came in: it says more and counts as full. Else prove '..UptoSaid'. A law counts once. -/
mutual
def uptoBulk {H : Type} : DataW H → Nat
  | .lit (.string bytes) => bytes.length + 1
  | .lit _ => 1
  | .nil => 1
  | .ptr d => uptoBulk d + 1
  | .slice elems spare => uptoBulkAll elems + uptoBulkAll spare + 1
  | .agg parts => uptoBulkAll parts + 1
  | .iface _ d => uptoBulk d + 1
  | .map entries => uptoBulkEntries entries + 1
  | .held _ => 1
def uptoBulkAll {H : Type} : List (DataW H) → Nat
  | [] => 0
  | d :: r => uptoBulk d + uptoBulkAll r
def uptoBulkEntries {H : Type} : List (Lit × DataW H) → Nat
  | [] => 0
  | x :: r => uptoBulkEntry x + uptoBulkEntries r
def uptoBulkEntry {H : Type} : Lit × DataW H → Nat
  | (.string bytes, d) => bytes.length + uptoBulk d + 1
  | (_, d) => uptoBulk d + 1
 end
def uptoSmall : (H : Type) → List (DataW H) → Bool := fun _ ds => decide (uptoBulkAll ds ≤ 1048576)
def OpenSpec.upto (s : _root_.Go.ChangeSpec) : _root_.Go.OpenSpec := { _root_.Go.OpenSpec.ofChange s with cond := some uptoSmall }

/-- 'haywainlaw14.CkptLasts', WHERE WHAT IT READS IS OF BULK AT MOST 1048576: true; the input reads as it did. -/
def ckptLastsUptoRow : OpenClaim := { program := "ytkcpbehgjbionaa", sum := "6fe9c357b3753e2f618a55d67731d36a451a8a065ff4a5f374881284eff954c3", func := "haywain/haywainlaw14.CkptLasts", spec := "ckptLasts", unfollowed := true, recurses := true, apart := false, narrowed := true }
def CkptLastsUptoSaid : Prop := ckptLastsUptoRow.holds Try.pinned (OpenSpec.upto ckptLastsSpec)

/-- 'haywainlaw14.CkptSaves', WHERE WHAT IT READS IS OF BULK AT MOST 1048576: true; the input reads as it did. -/
def ckptSavesUptoRow : OpenClaim := { program := "ytkcpbehgjbionaa", sum := "6fe9c357b3753e2f618a55d67731d36a451a8a065ff4a5f374881284eff954c3", func := "haywain/haywainlaw14.CkptSaves", spec := "ckptSaves", unfollowed := true, recurses := true, apart := false, narrowed := true }
def CkptSavesUptoSaid : Prop := ckptSavesUptoRow.holds Try.pinned (OpenSpec.upto ckptSavesSpec)

/-- 'haywainlaw14.CkptDoes', WHERE WHAT IT READS IS OF BULK AT MOST 1048576: true; the input reads as it did. -/
def ckptDoesUptoRow : OpenClaim := { program := "ytkcpbehgjbionaa", sum := "6fe9c357b3753e2f618a55d67731d36a451a8a065ff4a5f374881284eff954c3", func := "haywain/haywainlaw14.CkptDoes", spec := "ckptDoes", unfollowed := true, recurses := true, apart := false, narrowed := true }
def CkptDoesUptoSaid : Prop := ckptDoesUptoRow.holds Try.pinned (OpenSpec.upto ckptDoesSpec)

/-- 'haywainlaw14.CkptCuts', WHERE WHAT IT READS IS OF BULK AT MOST 1048576: true; the input reads as it did. -/
def ckptCutsUptoRow : OpenClaim := { program := "ytkcpbehgjbionaa", sum := "6fe9c357b3753e2f618a55d67731d36a451a8a065ff4a5f374881284eff954c3", func := "haywain/haywainlaw14.CkptCuts", spec := "ckptCuts", unfollowed := true, recurses := true, apart := false, narrowed := true }
def CkptCutsUptoSaid : Prop := ckptCutsUptoRow.holds Try.pinned (OpenSpec.upto ckptCutsSpec)

/-- 'haywainlaw14.CkptAgain', WHERE WHAT IT READS IS OF BULK AT MOST 1048576: true; the input reads as it did. -/
def ckptAgainUptoRow : OpenClaim := { program := "ytkcpbehgjbionaa", sum := "6fe9c357b3753e2f618a55d67731d36a451a8a065ff4a5f374881284eff954c3", func := "haywain/haywainlaw14.CkptAgain", spec := "ckptAgain", unfollowed := true, recurses := true, apart := false, narrowed := true }
def CkptAgainUptoSaid : Prop := ckptAgainUptoRow.holds Try.pinned (OpenSpec.upto ckptAgainSpec)

/-- 'haywainlaw14.CkptLater', WHERE WHAT IT READS IS OF BULK AT MOST 1048576: true; the input reads as it did. -/
def ckptLaterUptoRow : OpenClaim := { program := "ytkcpbehgjbionaa", sum := "6fe9c357b3753e2f618a55d67731d36a451a8a065ff4a5f374881284eff954c3", func := "haywain/haywainlaw14.CkptLater", spec := "ckptLater", unfollowed := true, recurses := true, apart := false, narrowed := true }
def CkptLaterUptoSaid : Prop := ckptLaterUptoRow.holds Try.pinned (OpenSpec.upto ckptLaterSpec)

end Rows
end Go.Proofs.Ytkcpbehgjbionaa
