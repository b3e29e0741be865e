/-
  No cell of these rows narrows 'for every input' (looked for: loops, veiled, ifaces, maps, wideKeys, modest, calm, conditions, laid).
  DERIVED. THE GIVEN ROWS OF THIS SEAT. 7 by the template 'for every input the law returns true; each argument reads behind the call as it read before'; 0 by the template 'total and deterministic' (their statements: YtpachjomjoaipaaTotals.lean).
  GIVEN WITH THE SEED: the statements are not yours to turn. If you find one false, say at which input.
  Laid BY PROGRAM, IN A SANDBOX (cutbox-rows.mjs): the forced cells as the released guide's own fill.sh prints them over the translation 5b0c4f5fff7424b5… (all of the seat's roots in one cut). By AI agents, Wed Nov 11 2026. No macro, syntax, notation, axiom, sorry.
-/
import Derived.Test.YtpachjomjoaipaaChecked
import GoSem.Claim
import GoSem.ClaimJoined
import GoSem.ClaimMapViews
import Derived.JoinedTies
import Derived.KernelRfl
namespace Go.Proofs.Ytpachjomjoaipaa
/- THE CELL 'sum', in the pinned program and in every row, IS THE sha256 OF THE DUMP (.gsa) THAT YtpachjomjoaipaaProg.lean LOADS. Nothing in Lean hashes anything: it is a label: what it is worth is what the hold of that sum in a sandbox is worth. -/
noncomputable def Try.pinned : Pinned := { name := "ytpachjomjoaipaa", sum := "5b0c4f5fff7424b57ff3a98797b831b59cb563b576ee9fa2a239b4beaaa145f9", checked := Try.checked }
namespace Rows
def none {H : Type} : Left H := { results := [], args := [] }

/-- 'haywainlaw02.CodeSums': WHATEVER THE INPUT: true; the input reads as it did. -/
def codeSumsSpec : ChangeSpec := { name := "codeSums", fn := fun _ => fun
  | [d] => { results := [.lit (.bool true)], args := [d] }
  | _ => none }
def codeSumsRow : OpenClaim := { program := "ytpachjomjoaipaa", sum := "5b0c4f5fff7424b57ff3a98797b831b59cb563b576ee9fa2a239b4beaaa145f9", func := "haywain/haywainlaw02.CodeSums", spec := "codeSums", apart := false }
def CodeSumsSaid : Prop := codeSumsRow.holds Try.pinned (OpenSpec.ofChange codeSumsSpec)

/-- ITS FALSE NEIGHBOUR: 'it returns false'. Refute it at one input. -/
def codeSumsWrong : ChangeSpec := { name := "codeSums", fn := fun _ => fun
  | [d] => { results := [.lit (.bool false)], args := [d] }
  | _ => none }
def CodeSumsWrongFalsely : Prop := codeSumsRow.holds Try.pinned (OpenSpec.ofChange codeSumsWrong)

/-- 'haywainlaw02.CodeWrites': WHATEVER THE INPUT: true; the input reads as it did. -/
def codeWritesSpec : ChangeSpec := { name := "codeWrites", fn := fun _ => fun
  | [d1, d2] => { results := [.lit (.bool true)], args := [d1, d2] }
  | _ => none }
def codeWritesRow : OpenClaim := { program := "ytpachjomjoaipaa", sum := "5b0c4f5fff7424b57ff3a98797b831b59cb563b576ee9fa2a239b4beaaa145f9", func := "haywain/haywainlaw02.CodeWrites", spec := "codeWrites", recurses := true, apart := false }
def CodeWritesSaid : Prop := codeWritesRow.holds Try.pinned (OpenSpec.ofChange codeWritesSpec)

/-- ITS FALSE NEIGHBOUR: 'it returns false'. Refute it at one input. -/
def codeWritesWrong : ChangeSpec := { name := "codeWrites", fn := fun _ => fun
  | [d1, d2] => { results := [.lit (.bool false)], args := [d1, d2] }
  | _ => none }
def CodeWritesWrongFalsely : Prop := codeWritesRow.holds Try.pinned (OpenSpec.ofChange codeWritesWrong)

/-- 'haywainlaw02.CodeFrames': WHATEVER THE INPUT: true; the input reads as it did. -/
def codeFramesSpec : ChangeSpec := { name := "codeFrames", fn := fun _ => fun
  | [d1, d2] => { results := [.lit (.bool true)], args := [d1, d2] }
  | _ => none }
def codeFramesRow : OpenClaim := { program := "ytpachjomjoaipaa", sum := "5b0c4f5fff7424b57ff3a98797b831b59cb563b576ee9fa2a239b4beaaa145f9", func := "haywain/haywainlaw02.CodeFrames", spec := "codeFrames", recurses := true, apart := false }
def CodeFramesSaid : Prop := codeFramesRow.holds Try.pinned (OpenSpec.ofChange codeFramesSpec)

/-- ITS FALSE NEIGHBOUR: 'it returns false'. Refute it at one input. -/
def codeFramesWrong : ChangeSpec := { name := "codeFrames", fn := fun _ => fun
  | [d1, d2] => { results := [.lit (.bool false)], args := [d1, d2] }
  | _ => none }
def CodeFramesWrongFalsely : Prop := codeFramesRow.holds Try.pinned (OpenSpec.ofChange codeFramesWrong)

/-- 'haywainlaw02.CodeBits': WHATEVER THE INPUT: true; the input reads as it did. -/
def codeBitsSpec : ChangeSpec := { name := "codeBits", fn := fun _ => fun
  | [d1, d2] => { results := [.lit (.bool true)], args := [d1, d2] }
  | _ => none }
def codeBitsRow : OpenClaim := { program := "ytpachjomjoaipaa", sum := "5b0c4f5fff7424b57ff3a98797b831b59cb563b576ee9fa2a239b4beaaa145f9", func := "haywain/haywainlaw02.CodeBits", spec := "codeBits", apart := false }
def CodeBitsSaid : Prop := codeBitsRow.holds Try.pinned (OpenSpec.ofChange codeBitsSpec)

/-- ITS FALSE NEIGHBOUR: 'it returns false'. Refute it at one input. -/
def codeBitsWrong : ChangeSpec := { name := "codeBits", fn := fun _ => fun
  | [d1, d2] => { results := [.lit (.bool false)], args := [d1, d2] }
  | _ => none }
def CodeBitsWrongFalsely : Prop := codeBitsRow.holds Try.pinned (OpenSpec.ofChange codeBitsWrong)

/-- 'haywainlaw02.CodeRuns': WHATEVER THE INPUT: true; the input reads as it did. -/
def codeRunsSpec : ChangeSpec := { name := "codeRuns", fn := fun _ => fun
  | [d1, d2] => { results := [.lit (.bool true)], args := [d1, d2] }
  | _ => none }
def codeRunsRow : OpenClaim := { program := "ytpachjomjoaipaa", sum := "5b0c4f5fff7424b57ff3a98797b831b59cb563b576ee9fa2a239b4beaaa145f9", func := "haywain/haywainlaw02.CodeRuns", spec := "codeRuns", apart := false }
def CodeRunsSaid : Prop := codeRunsRow.holds Try.pinned (OpenSpec.ofChange codeRunsSpec)

/-- ITS FALSE NEIGHBOUR: 'it returns false'. Refute it at one input. -/
def codeRunsWrong : ChangeSpec := { name := "codeRuns", fn := fun _ => fun
  | [d1, d2] => { results := [.lit (.bool false)], args := [d1, d2] }
  | _ => none }
def CodeRunsWrongFalsely : Prop := codeRunsRow.holds Try.pinned (OpenSpec.ofChange codeRunsWrong)

/-- 'haywainlaw02.CodeTakes': WHATEVER THE INPUT: true; the input reads as it did. -/
def codeTakesSpec : ChangeSpec := { name := "codeTakes", fn := fun _ => fun
  | [d] => { results := [.lit (.bool true)], args := [d] }
  | _ => none }
def codeTakesRow : OpenClaim := { program := "ytpachjomjoaipaa", sum := "5b0c4f5fff7424b57ff3a98797b831b59cb563b576ee9fa2a239b4beaaa145f9", func := "haywain/haywainlaw02.CodeTakes", spec := "codeTakes", apart := false }
def CodeTakesSaid : Prop := codeTakesRow.holds Try.pinned (OpenSpec.ofChange codeTakesSpec)

/-- ITS FALSE NEIGHBOUR: 'it returns false'. Refute it at one input. -/
def codeTakesWrong : ChangeSpec := { name := "codeTakes", fn := fun _ => fun
  | [d] => { results := [.lit (.bool false)], args := [d] }
  | _ => none }
def CodeTakesWrongFalsely : Prop := codeTakesRow.holds Try.pinned (OpenSpec.ofChange codeTakesWrong)

/-- 'haywainlaw02.CodeBack': WHATEVER THE INPUT: true; the input reads as it did. -/
def codeBackSpec : ChangeSpec := { name := "codeBack", fn := fun _ => fun
  | [d1, d2, d3, d4] => { results := [.lit (.bool true)], args := [d1, d2, d3, d4] }
  | _ => none }
def codeBackRow : OpenClaim := { program := "ytpachjomjoaipaa", sum := "5b0c4f5fff7424b57ff3a98797b831b59cb563b576ee9fa2a239b4beaaa145f9", func := "haywain/haywainlaw02.CodeBack", spec := "codeBack", apart := false }
def CodeBackSaid : Prop := codeBackRow.holds Try.pinned (OpenSpec.ofChange codeBackSpec)

/-- ITS FALSE NEIGHBOUR: 'it returns false'. Refute it at one input. -/
def codeBackWrong : ChangeSpec := { name := "codeBack", fn := fun _ => fun
  | [d1, d2, d3, d4] => { results := [.lit (.bool false)], args := [d1, d2, d3, d4] }
  | _ => none }
def CodeBackWrongFalsely : Prop := codeBackRow.holds Try.pinned (OpenSpec.ofChange codeBackWrong)

/- THE SECOND FORM. 'bulk': how many values and letters a reading holds, each counted each time it is reached (what is shared counts as often as it is met; a slice's spare places count too). A statement '..UptoSaid' is the law's where the arguments, and the package variables that the reading takes, are together of bulk at most 1048576: NARROWER than '..Said'. Prove '..Said' where nothing that the law and all that it calls make is longer than what came in: it says more and counts as full. Else prove '..UptoSaid'. A law counts once. -/
mutual
def uptoBulk {H : Type} : DataW H → Nat
  | .lit (.string bytes) => bytes.length + 1
  | .lit _ => 1
  | .nil => 1
  | .ptr d => uptoBulk d + 1
  | .slice elems spare => uptoBulkAll elems + uptoBulkAll spare + 1
  | .agg parts => uptoBulkAll parts + 1
  | .iface _ d => uptoBulk d + 1
  | .map entries => uptoBulkEntries entries + 1
  | .held _ => 1
def uptoBulkAll {H : Type} : List (DataW H) → Nat
  | [] => 0
  | d :: r => uptoBulk d + uptoBulkAll r
def uptoBulkEntries {H : Type} : List (Lit × DataW H) → Nat
  | [] => 0
  | x :: r => uptoBulkEntry x + uptoBulkEntries r
def uptoBulkEntry {H : Type} : Lit × DataW H → Nat
  | (.string bytes, d) => bytes.length + uptoBulk d + 1
  | (_, d) => uptoBulk d + 1
 end
def uptoSmall : (H : Type) → List (DataW H) → Bool := fun _ ds => decide (uptoBulkAll ds ≤ 1048576)
def OpenSpec.upto (s : _root_.Go.ChangeSpec) : _root_.Go.OpenSpec := { _root_.Go.OpenSpec.ofChange s with cond := some uptoSmall }

/-- 'haywainlaw02.CodeSums', WHERE WHAT IT READS IS OF BULK AT MOST 1048576: true; the input reads as it did. -/
def codeSumsUptoRow : OpenClaim := { program := "ytpachjomjoaipaa", sum := "5b0c4f5fff7424b57ff3a98797b831b59cb563b576ee9fa2a239b4beaaa145f9", func := "haywain/haywainlaw02.CodeSums", spec := "codeSums", apart := false, narrowed := true }
def CodeSumsUptoSaid : Prop := codeSumsUptoRow.holds Try.pinned (OpenSpec.upto codeSumsSpec)

/-- 'haywainlaw02.CodeWrites', WHERE WHAT IT READS IS OF BULK AT MOST 1048576: true; the input reads as it did. -/
def codeWritesUptoRow : OpenClaim := { program := "ytpachjomjoaipaa", sum := "5b0c4f5fff7424b57ff3a98797b831b59cb563b576ee9fa2a239b4beaaa145f9", func := "haywain/haywainlaw02.CodeWrites", spec := "codeWrites", recurses := true, apart := false, narrowed := true }
def CodeWritesUptoSaid : Prop := codeWritesUptoRow.holds Try.pinned (OpenSpec.upto codeWritesSpec)

/-- 'haywainlaw02.CodeFrames', WHERE WHAT IT READS IS OF BULK AT MOST 1048576: true; the input reads as it did. -/
def codeFramesUptoRow : OpenClaim := { program := "ytpachjomjoaipaa", sum := "5b0c4f5fff7424b57ff3a98797b831b59cb563b576ee9fa2a239b4beaaa145f9", func := "haywain/haywainlaw02.CodeFrames", spec := "codeFrames", recurses := true, apart := false, narrowed := true }
def CodeFramesUptoSaid : Prop := codeFramesUptoRow.holds Try.pinned (OpenSpec.upto codeFramesSpec)

/-- 'haywainlaw02.CodeBits', WHERE WHAT IT READS IS OF BULK AT MOST 1048576: true; the input reads as it did. -/
def codeBitsUptoRow : OpenClaim := { program := "ytpachjomjoaipaa", sum := "5b0c4f5fff7424b57ff3a98797b831b59cb563b576ee9fa2a239b4beaaa145f9", func := "haywain/haywainlaw02.CodeBits", spec := "codeBits", apart := false, narrowed := true }
def CodeBitsUptoSaid : Prop := codeBitsUptoRow.holds Try.pinned (OpenSpec.upto codeBitsSpec)

/-- 'haywainlaw02.CodeRuns', WHERE WHAT IT READS IS OF BULK AT MOST 1048576: true; the input reads as it did. -/
def codeRunsUptoRow : OpenClaim := { program := "ytpachjomjoaipaa", sum := "5b0c4f5fff7424b57ff3a98797b831b59cb563b576ee9fa2a239b4beaaa145f9", func := "haywain/haywainlaw02.CodeRuns", spec := "codeRuns", apart := false, narrowed := true }
def CodeRunsUptoSaid : Prop := codeRunsUptoRow.holds Try.pinned (OpenSpec.upto codeRunsSpec)

/-- 'haywainlaw02.CodeTakes', WHERE WHAT IT READS IS OF BULK AT MOST 1048576: true; the input reads as it did. -/
def codeTakesUptoRow : OpenClaim := { program := "ytpachjomjoaipaa", sum := "5b0c4f5fff7424b57ff3a98797b831b59cb563b576ee9fa2a239b4beaaa145f9", func := "haywain/haywainlaw02.CodeTakes", spec := "codeTakes", apart := false, narrowed := true }
def CodeTakesUptoSaid : Prop := codeTakesUptoRow.holds Try.pinned (OpenSpec.upto codeTakesSpec)

/-- 'haywainlaw02.CodeBack', WHERE WHAT IT READS IS OF BULK AT MOST 1048576: true; the input reads as it did. -/
def codeBackUptoRow : OpenClaim := { program := "ytpachjomjoaipaa", sum := "5b0c4f5fff7424b57ff3a98797b831b59cb563b576ee9fa2a239b4beaaa145f9", func := "haywain/haywainlaw02.CodeBack", spec := "codeBack", apart := false, narrowed := true }
def CodeBackUptoSaid : Prop := codeBackUptoRow.holds Try.pinned (OpenSpec.upto codeBackSpec)

end Rows
end Go.Proofs.Ytpachjomjoaipaa
