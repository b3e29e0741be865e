/-
  No cell of these rows narrows 'for every input' (looked for: loops, veiled, ifaces, maps, wideKeys, modest, calm, conditions, laid).
  DERIVED. THE GIVEN ROWS OF THIS SEAT. 6 by the template 'for every input the law returns true; each argument reads behind the call as it read before'; 0 by the template 'total and deterministic' (their statements: YtennlpldfjgldaaTotals.lean).
  GIVEN WITH THE SEED: the statements are not yours to turn. If you find one false, say at which input.
  Laid BY PROGRAM, IN A SANDBOX (cutbox-rows.mjs): the forced cells as the released guide's own fill.sh prints them over the translation 29da97102a758610… (all of the seat's roots in one cut). By AI agents, Wed Nov 11 2026. No macro, syntax, notation, axiom, sorry.
-/
import Derived.Test.YtennlpldfjgldaaChecked
import GoSem.Claim
import GoSem.ClaimJoined
import GoSem.ClaimMapViews
import Derived.JoinedTies
import Derived.KernelRfl
namespace Go.Proofs.Ytennlpldfjgldaa
/- THE CELL 'sum', in the pinned program and in every row, IS THE sha256 OF THE DUMP (.gsa) THAT YtennlpldfjgldaaProg.lean LOADS. Nothing in Lean hashes anything: it is a label: what it is worth is what the hold of that sum in a sandbox is worth. -/
noncomputable def Try.pinned : Pinned := { name := "ytennlpldfjgldaa", sum := "29da97102a7586108fbd088be6480134cc96a09c481b2eb15b9c9b2bbee2d477", checked := Try.checked }
namespace Rows
def none {H : Type} : Left H := { results := [], args := [] }

/-- 'haywainlaw12.LeaseMoments': WHATEVER THE INPUT: true; the input reads as it did. -/
def leaseMomentsSpec : ChangeSpec := { name := "leaseMoments", fn := fun _ => fun
  | [d1, d2] => { results := [.lit (.bool true)], args := [d1, d2] }
  | _ => none }
def leaseMomentsRow : OpenClaim := { program := "ytennlpldfjgldaa", sum := "29da97102a7586108fbd088be6480134cc96a09c481b2eb15b9c9b2bbee2d477", func := "haywain/haywainlaw12.LeaseMoments", spec := "leaseMoments", apart := false }
def LeaseMomentsSaid : Prop := leaseMomentsRow.holds Try.pinned (OpenSpec.ofChange leaseMomentsSpec)

/-- ITS FALSE NEIGHBOUR: 'it returns false'. Refute it at one input. -/
def leaseMomentsWrong : ChangeSpec := { name := "leaseMoments", fn := fun _ => fun
  | [d1, d2] => { results := [.lit (.bool false)], args := [d1, d2] }
  | _ => none }
def LeaseMomentsWrongFalsely : Prop := leaseMomentsRow.holds Try.pinned (OpenSpec.ofChange leaseMomentsWrong)

/-- 'haywainlaw12.LeaseAsks': WHATEVER THE INPUT: true; the input reads as it did. -/
def leaseAsksSpec : ChangeSpec := { name := "leaseAsks", fn := fun _ => fun
  | [d1, d2] => { results := [.lit (.bool true)], args := [d1, d2] }
  | _ => none }
def leaseAsksRow : OpenClaim := { program := "ytennlpldfjgldaa", sum := "29da97102a7586108fbd088be6480134cc96a09c481b2eb15b9c9b2bbee2d477", func := "haywain/haywainlaw12.LeaseAsks", spec := "leaseAsks", apart := false }
def LeaseAsksSaid : Prop := leaseAsksRow.holds Try.pinned (OpenSpec.ofChange leaseAsksSpec)

/-- ITS FALSE NEIGHBOUR: 'it returns false'. Refute it at one input. -/
def leaseAsksWrong : ChangeSpec := { name := "leaseAsks", fn := fun _ => fun
  | [d1, d2] => { results := [.lit (.bool false)], args := [d1, d2] }
  | _ => none }
def LeaseAsksWrongFalsely : Prop := leaseAsksRow.holds Try.pinned (OpenSpec.ofChange leaseAsksWrong)

/-- 'haywainlaw12.LeaseSafe': WHATEVER THE INPUT: true; the input reads as it did. -/
def leaseSafeSpec : ChangeSpec := { name := "leaseSafe", fn := fun _ => fun
  | [d1, d2, d3, d4, d5] => { results := [.lit (.bool true)], args := [d1, d2, d3, d4, d5] }
  | _ => none }
def leaseSafeRow : OpenClaim := { program := "ytennlpldfjgldaa", sum := "29da97102a7586108fbd088be6480134cc96a09c481b2eb15b9c9b2bbee2d477", func := "haywain/haywainlaw12.LeaseSafe", spec := "leaseSafe", apart := false }
def LeaseSafeSaid : Prop := leaseSafeRow.holds Try.pinned (OpenSpec.ofChange leaseSafeSpec)

/-- ITS FALSE NEIGHBOUR: 'it returns false'. Refute it at one input. -/
def leaseSafeWrong : ChangeSpec := { name := "leaseSafe", fn := fun _ => fun
  | [d1, d2, d3, d4, d5] => { results := [.lit (.bool false)], args := [d1, d2, d3, d4, d5] }
  | _ => none }
def LeaseSafeWrongFalsely : Prop := leaseSafeRow.holds Try.pinned (OpenSpec.ofChange leaseSafeWrong)

/-- 'haywainlaw12.LeaseEnds': WHATEVER THE INPUT: true; the input reads as it did. -/
def leaseEndsSpec : ChangeSpec := { name := "leaseEnds", fn := fun _ => fun
  | [d1, d2, d3, d4] => { results := [.lit (.bool true)], args := [d1, d2, d3, d4] }
  | _ => none }
def leaseEndsRow : OpenClaim := { program := "ytennlpldfjgldaa", sum := "29da97102a7586108fbd088be6480134cc96a09c481b2eb15b9c9b2bbee2d477", func := "haywain/haywainlaw12.LeaseEnds", spec := "leaseEnds", apart := false }
def LeaseEndsSaid : Prop := leaseEndsRow.holds Try.pinned (OpenSpec.ofChange leaseEndsSpec)

/-- ITS FALSE NEIGHBOUR: 'it returns false'. Refute it at one input. -/
def leaseEndsWrong : ChangeSpec := { name := "leaseEnds", fn := fun _ => fun
  | [d1, d2, d3, d4] => { results := [.lit (.bool false)], args := [d1, d2, d3, d4] }
  | _ => none }
def LeaseEndsWrongFalsely : Prop := leaseEndsRow.holds Try.pinned (OpenSpec.ofChange leaseEndsWrong)

/-- 'haywainlaw12.LeaseLonger': WHATEVER THE INPUT: true; the input reads as it did. -/
def leaseLongerSpec : ChangeSpec := { name := "leaseLonger", fn := fun _ => fun
  | [d1, d2, d3] => { results := [.lit (.bool true)], args := [d1, d2, d3] }
  | _ => none }
def leaseLongerRow : OpenClaim := { program := "ytennlpldfjgldaa", sum := "29da97102a7586108fbd088be6480134cc96a09c481b2eb15b9c9b2bbee2d477", func := "haywain/haywainlaw12.LeaseLonger", spec := "leaseLonger", apart := false }
def LeaseLongerSaid : Prop := leaseLongerRow.holds Try.pinned (OpenSpec.ofChange leaseLongerSpec)

/-- ITS FALSE NEIGHBOUR: 'it returns false'. Refute it at one input. -/
def leaseLongerWrong : ChangeSpec := { name := "leaseLonger", fn := fun _ => fun
  | [d1, d2, d3] => { results := [.lit (.bool false)], args := [d1, d2, d3] }
  | _ => none }
def LeaseLongerWrongFalsely : Prop := leaseLongerRow.holds Try.pinned (OpenSpec.ofChange leaseLongerWrong)

/-- 'haywainlaw12.LeaseRenews': WHATEVER THE INPUT: true; the input reads as it did. -/
def leaseRenewsSpec : ChangeSpec := { name := "leaseRenews", fn := fun _ => fun
  | [d1, d2, d3, d4] => { results := [.lit (.bool true)], args := [d1, d2, d3, d4] }
  | _ => none }
def leaseRenewsRow : OpenClaim := { program := "ytennlpldfjgldaa", sum := "29da97102a7586108fbd088be6480134cc96a09c481b2eb15b9c9b2bbee2d477", func := "haywain/haywainlaw12.LeaseRenews", spec := "leaseRenews", apart := false }
def LeaseRenewsSaid : Prop := leaseRenewsRow.holds Try.pinned (OpenSpec.ofChange leaseRenewsSpec)

/-- ITS FALSE NEIGHBOUR: 'it returns false'. Refute it at one input. -/
def leaseRenewsWrong : ChangeSpec := { name := "leaseRenews", fn := fun _ => fun
  | [d1, d2, d3, d4] => { results := [.lit (.bool false)], args := [d1, d2, d3, d4] }
  | _ => none }
def LeaseRenewsWrongFalsely : Prop := leaseRenewsRow.holds Try.pinned (OpenSpec.ofChange leaseRenewsWrong)

/- THE SECOND FORM. 'bulk': how many values and letters a reading holds, each counted each time it is reached (what is shared counts as often as it is met; a slice's spare places count too). A statement '..UptoSaid' is the law's where the arguments, and the package variables that the reading takes, are together of bulk at most 1048576: NARROWER than '..Said'. Prove '..Said' where nothing that the law and all that it calls make is longer than what came in: it says more and counts as full. Else prove '..UptoSaid'. A law counts once. -/
mutual
def uptoBulk {H : Type} : DataW H → Nat
  | .lit (.string bytes) => bytes.length + 1
  | .lit _ => 1
  | .nil => 1
  | .ptr d => uptoBulk d + 1
  | .slice elems spare => uptoBulkAll elems + uptoBulkAll spare + 1
  | .agg parts => uptoBulkAll parts + 1
  | .iface _ d => uptoBulk d + 1
  | .map entries => uptoBulkEntries entries + 1
  | .held _ => 1
def uptoBulkAll {H : Type} : List (DataW H) → Nat
  | [] => 0
  | d :: r => uptoBulk d + uptoBulkAll r
def uptoBulkEntries {H : Type} : List (Lit × DataW H) → Nat
  | [] => 0
  | x :: r => uptoBulkEntry x + uptoBulkEntries r
def uptoBulkEntry {H : Type} : Lit × DataW H → Nat
  | (.string bytes, d) => bytes.length + uptoBulk d + 1
  | (_, d) => uptoBulk d + 1
 end
def uptoSmall : (H : Type) → List (DataW H) → Bool := fun _ ds => decide (uptoBulkAll ds ≤ 1048576)
def OpenSpec.upto (s : _root_.Go.ChangeSpec) : _root_.Go.OpenSpec := { _root_.Go.OpenSpec.ofChange s with cond := some uptoSmall }

/-- 'haywainlaw12.LeaseMoments', WHERE WHAT IT READS IS OF BULK AT MOST 1048576: true; the input reads as it did. -/
def leaseMomentsUptoRow : OpenClaim := { program := "ytennlpldfjgldaa", sum := "29da97102a7586108fbd088be6480134cc96a09c481b2eb15b9c9b2bbee2d477", func := "haywain/haywainlaw12.LeaseMoments", spec := "leaseMoments", apart := false, narrowed := true }
def LeaseMomentsUptoSaid : Prop := leaseMomentsUptoRow.holds Try.pinned (OpenSpec.upto leaseMomentsSpec)

/-- 'haywainlaw12.LeaseAsks', WHERE WHAT IT READS IS OF BULK AT MOST 1048576: true; the input reads as it did. -/
def leaseAsksUptoRow : OpenClaim := { program := "ytennlpldfjgldaa", sum := "29da97102a7586108fbd088be6480134cc96a09c481b2eb15b9c9b2bbee2d477", func := "haywain/haywainlaw12.LeaseAsks", spec := "leaseAsks", apart := false, narrowed := true }
def LeaseAsksUptoSaid : Prop := leaseAsksUptoRow.holds Try.pinned (OpenSpec.upto leaseAsksSpec)

/-- 'haywainlaw12.LeaseSafe', WHERE WHAT IT READS IS OF BULK AT MOST 1048576: true; the input reads as it did. -/
def leaseSafeUptoRow : OpenClaim := { program := "ytennlpldfjgldaa", sum := "29da97102a7586108fbd088be6480134cc96a09c481b2eb15b9c9b2bbee2d477", func := "haywain/haywainlaw12.LeaseSafe", spec := "leaseSafe", apart := false, narrowed := true }
def LeaseSafeUptoSaid : Prop := leaseSafeUptoRow.holds Try.pinned (OpenSpec.upto leaseSafeSpec)

/-- 'haywainlaw12.LeaseEnds', WHERE WHAT IT READS IS OF BULK AT MOST 1048576: true; the input reads as it did. -/
def leaseEndsUptoRow : OpenClaim := { program := "ytennlpldfjgldaa", sum := "29da97102a7586108fbd088be6480134cc96a09c481b2eb15b9c9b2bbee2d477", func := "haywain/haywainlaw12.LeaseEnds", spec := "leaseEnds", apart := false, narrowed := true }
def LeaseEndsUptoSaid : Prop := leaseEndsUptoRow.holds Try.pinned (OpenSpec.upto leaseEndsSpec)

/-- 'haywainlaw12.LeaseLonger', WHERE WHAT IT READS IS OF BULK AT MOST 1048576: true; the input reads as it did. -/
def leaseLongerUptoRow : OpenClaim := { program := "ytennlpldfjgldaa", sum := "29da97102a7586108fbd088be6480134cc96a09c481b2eb15b9c9b2bbee2d477", func := "haywain/haywainlaw12.LeaseLonger", spec := "leaseLonger", apart := false, narrowed := true }
def LeaseLongerUptoSaid : Prop := leaseLongerUptoRow.holds Try.pinned (OpenSpec.upto leaseLongerSpec)

/-- 'haywainlaw12.LeaseRenews', WHERE WHAT IT READS IS OF BULK AT MOST 1048576: true; the input reads as it did. -/
def leaseRenewsUptoRow : OpenClaim := { program := "ytennlpldfjgldaa", sum := "29da97102a7586108fbd088be6480134cc96a09c481b2eb15b9c9b2bbee2d477", func := "haywain/haywainlaw12.LeaseRenews", spec := "leaseRenews", apart := false, narrowed := true }
def LeaseRenewsUptoSaid : Prop := leaseRenewsUptoRow.holds Try.pinned (OpenSpec.upto leaseRenewsSpec)

end Rows
end Go.Proofs.Ytennlpldfjgldaa
