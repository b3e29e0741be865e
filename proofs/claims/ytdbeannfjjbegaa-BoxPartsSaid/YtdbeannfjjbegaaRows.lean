/-
  No cell of these rows narrows 'for every input' (looked for: loops, veiled, ifaces, maps, wideKeys, modest, calm, conditions, laid).
  DERIVED. THE GIVEN ROWS OF THIS SEAT. 7 by the template 'for every input the law returns true; each argument reads behind the call as it read before'; 0 by the template 'total and deterministic' (their statements: YtdbeannfjjbegaaTotals.lean).
  GIVEN WITH THE SEED: the statements are not yours to turn. If you find one false, say at which input.
  Laid BY PROGRAM, IN A SANDBOX (cutbox-rows.mjs): the forced cells as the released guide's own fill.sh prints them over the translation f2143138a84cc2c8… (all of the seat's roots in one cut). By AI agents, Wed Nov 11 2026. No macro, syntax, notation, axiom, sorry.
-/
import Derived.Test.YtdbeannfjjbegaaChecked
import GoSem.Claim
import GoSem.ClaimJoined
import GoSem.ClaimMapViews
import Derived.JoinedTies
import Derived.KernelRfl
namespace Go.Proofs.Ytdbeannfjjbegaa
/- THE CELL 'sum', in the pinned program and in every row, IS THE sha256 OF THE DUMP (.gsa) THAT YtdbeannfjjbegaaProg.lean LOADS. Nothing in Lean hashes anything: it is a label: what it is worth is what the hold of that sum in a sandbox is worth. -/
noncomputable def Try.pinned : Pinned := { name := "ytdbeannfjjbegaa", sum := "f2143138a84cc2c86aa4a3e4e1c089f51f0fa985bea43aa5508d95b0dc1c0f45", checked := Try.checked }
namespace Rows
def none {H : Type} : Left H := { results := [], args := [] }

/-- 'haywainlaw05.BoxSorts': WHATEVER THE INPUT: true; the input reads as it did. -/
def boxSortsSpec : ChangeSpec := { name := "boxSorts", fn := fun _ => fun
  | [d] => { results := [.lit (.bool true)], args := [d] }
  | _ => none }
def boxSortsRow : OpenClaim := { program := "ytdbeannfjjbegaa", sum := "f2143138a84cc2c86aa4a3e4e1c089f51f0fa985bea43aa5508d95b0dc1c0f45", func := "haywain/haywainlaw05.BoxSorts", spec := "boxSorts", unfollowed := true, recurses := true, apart := false }
def BoxSortsSaid : Prop := boxSortsRow.holds Try.pinned (OpenSpec.ofChange boxSortsSpec)

/-- ITS FALSE NEIGHBOUR: 'it returns false'. Refute it at one input. -/
def boxSortsWrong : ChangeSpec := { name := "boxSorts", fn := fun _ => fun
  | [d] => { results := [.lit (.bool false)], args := [d] }
  | _ => none }
def BoxSortsWrongFalsely : Prop := boxSortsRow.holds Try.pinned (OpenSpec.ofChange boxSortsWrong)

/-- 'haywainlaw05.BoxJoins': WHATEVER THE INPUT: true; the input reads as it did. -/
def boxJoinsSpec : ChangeSpec := { name := "boxJoins", fn := fun _ => fun
  | [d] => { results := [.lit (.bool true)], args := [d] }
  | _ => none }
def boxJoinsRow : OpenClaim := { program := "ytdbeannfjjbegaa", sum := "f2143138a84cc2c86aa4a3e4e1c089f51f0fa985bea43aa5508d95b0dc1c0f45", func := "haywain/haywainlaw05.BoxJoins", spec := "boxJoins", unfollowed := true, recurses := true, apart := false }
def BoxJoinsSaid : Prop := boxJoinsRow.holds Try.pinned (OpenSpec.ofChange boxJoinsSpec)

/-- ITS FALSE NEIGHBOUR: 'it returns false'. Refute it at one input. -/
def boxJoinsWrong : ChangeSpec := { name := "boxJoins", fn := fun _ => fun
  | [d] => { results := [.lit (.bool false)], args := [d] }
  | _ => none }
def BoxJoinsWrongFalsely : Prop := boxJoinsRow.holds Try.pinned (OpenSpec.ofChange boxJoinsWrong)

/-- 'haywainlaw05.BoxFolds': WHATEVER THE INPUT: true; the input reads as it did. -/
def boxFoldsSpec : ChangeSpec := { name := "boxFolds", fn := fun _ => fun
  | [d1, d2] => { results := [.lit (.bool true)], args := [d1, d2] }
  | _ => none }
def boxFoldsRow : OpenClaim := { program := "ytdbeannfjjbegaa", sum := "f2143138a84cc2c86aa4a3e4e1c089f51f0fa985bea43aa5508d95b0dc1c0f45", func := "haywain/haywainlaw05.BoxFolds", spec := "boxFolds", unfollowed := true, recurses := true, apart := false }
def BoxFoldsSaid : Prop := boxFoldsRow.holds Try.pinned (OpenSpec.ofChange boxFoldsSpec)

/-- ITS FALSE NEIGHBOUR: 'it returns false'. Refute it at one input. -/
def boxFoldsWrong : ChangeSpec := { name := "boxFolds", fn := fun _ => fun
  | [d1, d2] => { results := [.lit (.bool false)], args := [d1, d2] }
  | _ => none }
def BoxFoldsWrongFalsely : Prop := boxFoldsRow.holds Try.pinned (OpenSpec.ofChange boxFoldsWrong)

/-- 'haywainlaw05.BoxAts': WHATEVER THE INPUT: true; the input reads as it did. -/
def boxAtsSpec : ChangeSpec := { name := "boxAts", fn := fun _ => fun
  | [d1, d2, d3] => { results := [.lit (.bool true)], args := [d1, d2, d3] }
  | _ => none }
def boxAtsRow : OpenClaim := { program := "ytdbeannfjjbegaa", sum := "f2143138a84cc2c86aa4a3e4e1c089f51f0fa985bea43aa5508d95b0dc1c0f45", func := "haywain/haywainlaw05.BoxAts", spec := "boxAts", unfollowed := true, recurses := true, apart := false }
def BoxAtsSaid : Prop := boxAtsRow.holds Try.pinned (OpenSpec.ofChange boxAtsSpec)

/-- ITS FALSE NEIGHBOUR: 'it returns false'. Refute it at one input. -/
def boxAtsWrong : ChangeSpec := { name := "boxAts", fn := fun _ => fun
  | [d1, d2, d3] => { results := [.lit (.bool false)], args := [d1, d2, d3] }
  | _ => none }
def BoxAtsWrongFalsely : Prop := boxAtsRow.holds Try.pinned (OpenSpec.ofChange boxAtsWrong)

/-- 'haywainlaw05.BoxStays': WHATEVER THE INPUT: true; the input reads as it did. -/
def boxStaysSpec : ChangeSpec := { name := "boxStays", fn := fun _ => fun
  | [d1, d2] => { results := [.lit (.bool true)], args := [d1, d2] }
  | _ => none }
def boxStaysRow : OpenClaim := { program := "ytdbeannfjjbegaa", sum := "f2143138a84cc2c86aa4a3e4e1c089f51f0fa985bea43aa5508d95b0dc1c0f45", func := "haywain/haywainlaw05.BoxStays", spec := "boxStays", unfollowed := true, recurses := true, apart := false }
def BoxStaysSaid : Prop := boxStaysRow.holds Try.pinned (OpenSpec.ofChange boxStaysSpec)

/-- ITS FALSE NEIGHBOUR: 'it returns false'. Refute it at one input. -/
def boxStaysWrong : ChangeSpec := { name := "boxStays", fn := fun _ => fun
  | [d1, d2] => { results := [.lit (.bool false)], args := [d1, d2] }
  | _ => none }
def BoxStaysWrongFalsely : Prop := boxStaysRow.holds Try.pinned (OpenSpec.ofChange boxStaysWrong)

/-- 'haywainlaw05.BoxParts': WHATEVER THE INPUT: true; the input reads as it did. -/
def boxPartsSpec : ChangeSpec := { name := "boxParts", fn := fun _ => fun
  | [d1, d2, d3] => { results := [.lit (.bool true)], args := [d1, d2, d3] }
  | _ => none }
def boxPartsRow : OpenClaim := { program := "ytdbeannfjjbegaa", sum := "f2143138a84cc2c86aa4a3e4e1c089f51f0fa985bea43aa5508d95b0dc1c0f45", func := "haywain/haywainlaw05.BoxParts", spec := "boxParts", unfollowed := true, recurses := true, apart := false }
def BoxPartsSaid : Prop := boxPartsRow.holds Try.pinned (OpenSpec.ofChange boxPartsSpec)

/-- ITS FALSE NEIGHBOUR: 'it returns false'. Refute it at one input. -/
def boxPartsWrong : ChangeSpec := { name := "boxParts", fn := fun _ => fun
  | [d1, d2, d3] => { results := [.lit (.bool false)], args := [d1, d2, d3] }
  | _ => none }
def BoxPartsWrongFalsely : Prop := boxPartsRow.holds Try.pinned (OpenSpec.ofChange boxPartsWrong)

/-- 'haywainlaw05.BoxTurns': WHATEVER THE INPUT: true; the input reads as it did. -/
def boxTurnsSpec : ChangeSpec := { name := "boxTurns", fn := fun _ => fun
  | [d1, d2, d3] => { results := [.lit (.bool true)], args := [d1, d2, d3] }
  | _ => none }
def boxTurnsRow : OpenClaim := { program := "ytdbeannfjjbegaa", sum := "f2143138a84cc2c86aa4a3e4e1c089f51f0fa985bea43aa5508d95b0dc1c0f45", func := "haywain/haywainlaw05.BoxTurns", spec := "boxTurns", unfollowed := true, recurses := true, apart := false }
def BoxTurnsSaid : Prop := boxTurnsRow.holds Try.pinned (OpenSpec.ofChange boxTurnsSpec)

/-- ITS FALSE NEIGHBOUR: 'it returns false'. Refute it at one input. -/
def boxTurnsWrong : ChangeSpec := { name := "boxTurns", fn := fun _ => fun
  | [d1, d2, d3] => { results := [.lit (.bool false)], args := [d1, d2, d3] }
  | _ => none }
def BoxTurnsWrongFalsely : Prop := boxTurnsRow.holds Try.pinned (OpenSpec.ofChange boxTurnsWrong)

/- THE SECOND FORM. 'bulk': how many values and letters a reading holds, each counted each time it is reached (what is shared counts as often as it is met; a slice's spare places count too). A statement '..UptoSaid' is the law's where the arguments, and the package variables that the reading takes, are together of bulk at most 1048576: NARROWER than '..Said'. Prove '..Said' where nothing that the law and all that it calls make is longer than what came in: it says more and counts as full. Else prove '..UptoSaid'. A law counts once. -/
mutual
def uptoBulk {H : Type} : DataW H → Nat
  | .lit (.string bytes) => bytes.length + 1
  | .lit _ => 1
  | .nil => 1
  | .ptr d => uptoBulk d + 1
  | .slice elems spare => uptoBulkAll elems + uptoBulkAll spare + 1
  | .agg parts => uptoBulkAll parts + 1
  | .iface _ d => uptoBulk d + 1
  | .map entries => uptoBulkEntries entries + 1
  | .held _ => 1
def uptoBulkAll {H : Type} : List (DataW H) → Nat
  | [] => 0
  | d :: r => uptoBulk d + uptoBulkAll r
def uptoBulkEntries {H : Type} : List (Lit × DataW H) → Nat
  | [] => 0
  | x :: r => uptoBulkEntry x + uptoBulkEntries r
def uptoBulkEntry {H : Type} : Lit × DataW H → Nat
  | (.string bytes, d) => bytes.length + uptoBulk d + 1
  | (_, d) => uptoBulk d + 1
 end
def uptoSmall : (H : Type) → List (DataW H) → Bool := fun _ ds => decide (uptoBulkAll ds ≤ 1048576)
def OpenSpec.upto (s : _root_.Go.ChangeSpec) : _root_.Go.OpenSpec := { _root_.Go.OpenSpec.ofChange s with cond := some uptoSmall }

/-- 'haywainlaw05.BoxSorts', WHERE WHAT IT READS IS OF BULK AT MOST 1048576: true; the input reads as it did. -/
def boxSortsUptoRow : OpenClaim := { program := "ytdbeannfjjbegaa", sum := "f2143138a84cc2c86aa4a3e4e1c089f51f0fa985bea43aa5508d95b0dc1c0f45", func := "haywain/haywainlaw05.BoxSorts", spec := "boxSorts", unfollowed := true, recurses := true, apart := false, narrowed := true }
def BoxSortsUptoSaid : Prop := boxSortsUptoRow.holds Try.pinned (OpenSpec.upto boxSortsSpec)

/-- 'haywainlaw05.BoxJoins', WHERE WHAT IT READS IS OF BULK AT MOST 1048576: true; the input reads as it did. -/
def boxJoinsUptoRow : OpenClaim := { program := "ytdbeannfjjbegaa", sum := "f2143138a84cc2c86aa4a3e4e1c089f51f0fa985bea43aa5508d95b0dc1c0f45", func := "haywain/haywainlaw05.BoxJoins", spec := "boxJoins", unfollowed := true, recurses := true, apart := false, narrowed := true }
def BoxJoinsUptoSaid : Prop := boxJoinsUptoRow.holds Try.pinned (OpenSpec.upto boxJoinsSpec)

/-- 'haywainlaw05.BoxFolds', WHERE WHAT IT READS IS OF BULK AT MOST 1048576: true; the input reads as it did. -/
def boxFoldsUptoRow : OpenClaim := { program := "ytdbeannfjjbegaa", sum := "f2143138a84cc2c86aa4a3e4e1c089f51f0fa985bea43aa5508d95b0dc1c0f45", func := "haywain/haywainlaw05.BoxFolds", spec := "boxFolds", unfollowed := true, recurses := true, apart := false, narrowed := true }
def BoxFoldsUptoSaid : Prop := boxFoldsUptoRow.holds Try.pinned (OpenSpec.upto boxFoldsSpec)

/-- 'haywainlaw05.BoxAts', WHERE WHAT IT READS IS OF BULK AT MOST 1048576: true; the input reads as it did. -/
def boxAtsUptoRow : OpenClaim := { program := "ytdbeannfjjbegaa", sum := "f2143138a84cc2c86aa4a3e4e1c089f51f0fa985bea43aa5508d95b0dc1c0f45", func := "haywain/haywainlaw05.BoxAts", spec := "boxAts", unfollowed := true, recurses := true, apart := false, narrowed := true }
def BoxAtsUptoSaid : Prop := boxAtsUptoRow.holds Try.pinned (OpenSpec.upto boxAtsSpec)

/-- 'haywainlaw05.BoxStays', WHERE WHAT IT READS IS OF BULK AT MOST 1048576: true; the input reads as it did. -/
def boxStaysUptoRow : OpenClaim := { program := "ytdbeannfjjbegaa", sum := "f2143138a84cc2c86aa4a3e4e1c089f51f0fa985bea43aa5508d95b0dc1c0f45", func := "haywain/haywainlaw05.BoxStays", spec := "boxStays", unfollowed := true, recurses := true, apart := false, narrowed := true }
def BoxStaysUptoSaid : Prop := boxStaysUptoRow.holds Try.pinned (OpenSpec.upto boxStaysSpec)

/-- 'haywainlaw05.BoxParts', WHERE WHAT IT READS IS OF BULK AT MOST 1048576: true; the input reads as it did. -/
def boxPartsUptoRow : OpenClaim := { program := "ytdbeannfjjbegaa", sum := "f2143138a84cc2c86aa4a3e4e1c089f51f0fa985bea43aa5508d95b0dc1c0f45", func := "haywain/haywainlaw05.BoxParts", spec := "boxParts", unfollowed := true, recurses := true, apart := false, narrowed := true }
def BoxPartsUptoSaid : Prop := boxPartsUptoRow.holds Try.pinned (OpenSpec.upto boxPartsSpec)

/-- 'haywainlaw05.BoxTurns', WHERE WHAT IT READS IS OF BULK AT MOST 1048576: true; the input reads as it did. -/
def boxTurnsUptoRow : OpenClaim := { program := "ytdbeannfjjbegaa", sum := "f2143138a84cc2c86aa4a3e4e1c089f51f0fa985bea43aa5508d95b0dc1c0f45", func := "haywain/haywainlaw05.BoxTurns", spec := "boxTurns", unfollowed := true, recurses := true, apart := false, narrowed := true }
def BoxTurnsUptoSaid : Prop := boxTurnsUptoRow.holds Try.pinned (OpenSpec.upto boxTurnsSpec)

end Rows
end Go.Proofs.Ytdbeannfjjbegaa
