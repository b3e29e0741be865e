/-
  No cell of these rows narrows 'for every input' (looked for: loops, veiled, ifaces, maps, wideKeys, modest, calm, conditions, laid).
  DERIVED. THE GIVEN ROWS OF THIS SEAT. 6 by the template 'for every input the law returns true; each argument reads behind the call as it read before'; 0 by the template 'total and deterministic' (their statements: YtfgdceeceehmpaaTotals.lean).
  GIVEN WITH THE SEED: the statements are not yours to turn. If you find one false, say at which input.
  Laid BY PROGRAM, IN A SANDBOX (cutbox-rows.mjs): the forced cells as the released guide's own fill.sh prints them over the translation 4959170a86eccf06… (all of the seat's roots in one cut). By AI agents, Wed Nov 11 2026. No macro, syntax, notation, axiom, sorry.
-/
import Derived.Test.YtfgdceeceehmpaaChecked
import GoSem.Claim
import GoSem.ClaimJoined
import GoSem.ClaimMapViews
import Derived.JoinedTies
import Derived.KernelRfl
namespace Go.Proofs.Ytfgdceeceehmpaa
/- THE CELL 'sum', in the pinned program and in every row, IS THE sha256 OF THE DUMP (.gsa) THAT YtfgdceeceehmpaaProg.lean LOADS. Nothing in Lean hashes anything: it is a label: what it is worth is what the hold of that sum in a sandbox is worth. -/
noncomputable def Try.pinned : Pinned := { name := "ytfgdceeceehmpaa", sum := "4959170a86eccf065f35a785f67f38cb8f01729a740d7bb2beb84050c751ecc3", checked := Try.checked }
namespace Rows
def none {H : Type} : Left H := { results := [], args := [] }

/-- 'haywainlaw13.DiskAsks': WHATEVER THE INPUT: true; the input reads as it did. -/
def diskAsksSpec : ChangeSpec := { name := "diskAsks", fn := fun _ => fun
  | [d1, d2] => { results := [.lit (.bool true)], args := [d1, d2] }
  | _ => none }
def diskAsksRow : OpenClaim := { program := "ytfgdceeceehmpaa", sum := "4959170a86eccf065f35a785f67f38cb8f01729a740d7bb2beb84050c751ecc3", func := "haywain/haywainlaw13.DiskAsks", spec := "diskAsks", unfollowed := true, recurses := true, apart := false }
def DiskAsksSaid : Prop := diskAsksRow.holds Try.pinned (OpenSpec.ofChange diskAsksSpec)

/-- ITS FALSE NEIGHBOUR: 'it returns false'. Refute it at one input. -/
def diskAsksWrong : ChangeSpec := { name := "diskAsks", fn := fun _ => fun
  | [d1, d2] => { results := [.lit (.bool false)], args := [d1, d2] }
  | _ => none }
def DiskAsksWrongFalsely : Prop := diskAsksRow.holds Try.pinned (OpenSpec.ofChange diskAsksWrong)

/-- 'haywainlaw13.DiskLasts': WHATEVER THE INPUT: true; the input reads as it did. -/
def diskLastsSpec : ChangeSpec := { name := "diskLasts", fn := fun _ => fun
  | [d1, d2, d3] => { results := [.lit (.bool true)], args := [d1, d2, d3] }
  | _ => none }
def diskLastsRow : OpenClaim := { program := "ytfgdceeceehmpaa", sum := "4959170a86eccf065f35a785f67f38cb8f01729a740d7bb2beb84050c751ecc3", func := "haywain/haywainlaw13.DiskLasts", spec := "diskLasts", unfollowed := true, recurses := true, apart := false }
def DiskLastsSaid : Prop := diskLastsRow.holds Try.pinned (OpenSpec.ofChange diskLastsSpec)

/-- ITS FALSE NEIGHBOUR: 'it returns false'. Refute it at one input. -/
def diskLastsWrong : ChangeSpec := { name := "diskLasts", fn := fun _ => fun
  | [d1, d2, d3] => { results := [.lit (.bool false)], args := [d1, d2, d3] }
  | _ => none }
def DiskLastsWrongFalsely : Prop := diskLastsRow.holds Try.pinned (OpenSpec.ofChange diskLastsWrong)

/-- 'haywainlaw13.DiskBehind': WHATEVER THE INPUT: true; the input reads as it did. -/
def diskBehindSpec : ChangeSpec := { name := "diskBehind", fn := fun _ => fun
  | [d1, d2, d3, d4] => { results := [.lit (.bool true)], args := [d1, d2, d3, d4] }
  | _ => none }
def diskBehindRow : OpenClaim := { program := "ytfgdceeceehmpaa", sum := "4959170a86eccf065f35a785f67f38cb8f01729a740d7bb2beb84050c751ecc3", func := "haywain/haywainlaw13.DiskBehind", spec := "diskBehind", unfollowed := true, recurses := true, apart := false }
def DiskBehindSaid : Prop := diskBehindRow.holds Try.pinned (OpenSpec.ofChange diskBehindSpec)

/-- ITS FALSE NEIGHBOUR: 'it returns false'. Refute it at one input. -/
def diskBehindWrong : ChangeSpec := { name := "diskBehind", fn := fun _ => fun
  | [d1, d2, d3, d4] => { results := [.lit (.bool false)], args := [d1, d2, d3, d4] }
  | _ => none }
def DiskBehindWrongFalsely : Prop := diskBehindRow.holds Try.pinned (OpenSpec.ofChange diskBehindWrong)

/-- 'haywainlaw13.DiskPlays': WHATEVER THE INPUT: true; the input reads as it did. -/
def diskPlaysSpec : ChangeSpec := { name := "diskPlays", fn := fun _ => fun
  | [d1, d2] => { results := [.lit (.bool true)], args := [d1, d2] }
  | _ => none }
def diskPlaysRow : OpenClaim := { program := "ytfgdceeceehmpaa", sum := "4959170a86eccf065f35a785f67f38cb8f01729a740d7bb2beb84050c751ecc3", func := "haywain/haywainlaw13.DiskPlays", spec := "diskPlays", unfollowed := true, recurses := true, apart := false }
def DiskPlaysSaid : Prop := diskPlaysRow.holds Try.pinned (OpenSpec.ofChange diskPlaysSpec)

/-- ITS FALSE NEIGHBOUR: 'it returns false'. Refute it at one input. -/
def diskPlaysWrong : ChangeSpec := { name := "diskPlays", fn := fun _ => fun
  | [d1, d2] => { results := [.lit (.bool false)], args := [d1, d2] }
  | _ => none }
def DiskPlaysWrongFalsely : Prop := diskPlaysRow.holds Try.pinned (OpenSpec.ofChange diskPlaysWrong)

/-- 'haywainlaw13.DiskApart': WHATEVER THE INPUT: true; the input reads as it did. -/
def diskApartSpec : ChangeSpec := { name := "diskApart", fn := fun _ => fun
  | [d1, d2, d3] => { results := [.lit (.bool true)], args := [d1, d2, d3] }
  | _ => none }
def diskApartRow : OpenClaim := { program := "ytfgdceeceehmpaa", sum := "4959170a86eccf065f35a785f67f38cb8f01729a740d7bb2beb84050c751ecc3", func := "haywain/haywainlaw13.DiskApart", spec := "diskApart", unfollowed := true, recurses := true, apart := false }
def DiskApartSaid : Prop := diskApartRow.holds Try.pinned (OpenSpec.ofChange diskApartSpec)

/-- ITS FALSE NEIGHBOUR: 'it returns false'. Refute it at one input. -/
def diskApartWrong : ChangeSpec := { name := "diskApart", fn := fun _ => fun
  | [d1, d2, d3] => { results := [.lit (.bool false)], args := [d1, d2, d3] }
  | _ => none }
def DiskApartWrongFalsely : Prop := diskApartRow.holds Try.pinned (OpenSpec.ofChange diskApartWrong)

/-- 'haywainlaw13.DiskCutsOff': WHATEVER THE INPUT: true; the input reads as it did. -/
def diskCutsOffSpec : ChangeSpec := { name := "diskCutsOff", fn := fun _ => fun
  | [d1, d2, d3, d4, d5] => { results := [.lit (.bool true)], args := [d1, d2, d3, d4, d5] }
  | _ => none }
def diskCutsOffRow : OpenClaim := { program := "ytfgdceeceehmpaa", sum := "4959170a86eccf065f35a785f67f38cb8f01729a740d7bb2beb84050c751ecc3", func := "haywain/haywainlaw13.DiskCutsOff", spec := "diskCutsOff", unfollowed := true, recurses := true, apart := false }
def DiskCutsOffSaid : Prop := diskCutsOffRow.holds Try.pinned (OpenSpec.ofChange diskCutsOffSpec)

/-- ITS FALSE NEIGHBOUR: 'it returns false'. Refute it at one input. -/
def diskCutsOffWrong : ChangeSpec := { name := "diskCutsOff", fn := fun _ => fun
  | [d1, d2, d3, d4, d5] => { results := [.lit (.bool false)], args := [d1, d2, d3, d4, d5] }
  | _ => none }
def DiskCutsOffWrongFalsely : Prop := diskCutsOffRow.holds Try.pinned (OpenSpec.ofChange diskCutsOffWrong)

/- THE SECOND FORM. 'bulk': how many values and letters a reading holds, each counted each time it is reached (what is shared counts as often as it is met; a slice's spare places count too). A statement '..UptoSaid' is the law's where the arguments, and the package variables that the reading takes, are together of bulk at most 1048576: NARROWER than '..Said'. Prove '..Said' where nothing that the law and all that it calls make is longer than what came in: it says more and counts as full. Else prove '..UptoSaid'. A law counts once. -/
mutual
def uptoBulk {H : Type} : DataW H → Nat
  | .lit (.string bytes) => bytes.length + 1
  | .lit _ => 1
  | .nil => 1
  | .ptr d => uptoBulk d + 1
  | .slice elems spare => uptoBulkAll elems + uptoBulkAll spare + 1
  | .agg parts => uptoBulkAll parts + 1
  | .iface _ d => uptoBulk d + 1
  | .map entries => uptoBulkEntries entries + 1
  | .held _ => 1
def uptoBulkAll {H : Type} : List (DataW H) → Nat
  | [] => 0
  | d :: r => uptoBulk d + uptoBulkAll r
def uptoBulkEntries {H : Type} : List (Lit × DataW H) → Nat
  | [] => 0
  | x :: r => uptoBulkEntry x + uptoBulkEntries r
def uptoBulkEntry {H : Type} : Lit × DataW H → Nat
  | (.string bytes, d) => bytes.length + uptoBulk d + 1
  | (_, d) => uptoBulk d + 1
 end
def uptoSmall : (H : Type) → List (DataW H) → Bool := fun _ ds => decide (uptoBulkAll ds ≤ 1048576)
def OpenSpec.upto (s : _root_.Go.ChangeSpec) : _root_.Go.OpenSpec := { _root_.Go.OpenSpec.ofChange s with cond := some uptoSmall }

/-- 'haywainlaw13.DiskAsks', WHERE WHAT IT READS IS OF BULK AT MOST 1048576: true; the input reads as it did. -/
def diskAsksUptoRow : OpenClaim := { program := "ytfgdceeceehmpaa", sum := "4959170a86eccf065f35a785f67f38cb8f01729a740d7bb2beb84050c751ecc3", func := "haywain/haywainlaw13.DiskAsks", spec := "diskAsks", unfollowed := true, recurses := true, apart := false, narrowed := true }
def DiskAsksUptoSaid : Prop := diskAsksUptoRow.holds Try.pinned (OpenSpec.upto diskAsksSpec)

/-- 'haywainlaw13.DiskLasts', WHERE WHAT IT READS IS OF BULK AT MOST 1048576: true; the input reads as it did. -/
def diskLastsUptoRow : OpenClaim := { program := "ytfgdceeceehmpaa", sum := "4959170a86eccf065f35a785f67f38cb8f01729a740d7bb2beb84050c751ecc3", func := "haywain/haywainlaw13.DiskLasts", spec := "diskLasts", unfollowed := true, recurses := true, apart := false, narrowed := true }
def DiskLastsUptoSaid : Prop := diskLastsUptoRow.holds Try.pinned (OpenSpec.upto diskLastsSpec)

/-- 'haywainlaw13.DiskBehind', WHERE WHAT IT READS IS OF BULK AT MOST 1048576: true; the input reads as it did. -/
def diskBehindUptoRow : OpenClaim := { program := "ytfgdceeceehmpaa", sum := "4959170a86eccf065f35a785f67f38cb8f01729a740d7bb2beb84050c751ecc3", func := "haywain/haywainlaw13.DiskBehind", spec := "diskBehind", unfollowed := true, recurses := true, apart := false, narrowed := true }
def DiskBehindUptoSaid : Prop := diskBehindUptoRow.holds Try.pinned (OpenSpec.upto diskBehindSpec)

/-- 'haywainlaw13.DiskPlays', WHERE WHAT IT READS IS OF BULK AT MOST 1048576: true; the input reads as it did. -/
def diskPlaysUptoRow : OpenClaim := { program := "ytfgdceeceehmpaa", sum := "4959170a86eccf065f35a785f67f38cb8f01729a740d7bb2beb84050c751ecc3", func := "haywain/haywainlaw13.DiskPlays", spec := "diskPlays", unfollowed := true, recurses := true, apart := false, narrowed := true }
def DiskPlaysUptoSaid : Prop := diskPlaysUptoRow.holds Try.pinned (OpenSpec.upto diskPlaysSpec)

/-- 'haywainlaw13.DiskApart', WHERE WHAT IT READS IS OF BULK AT MOST 1048576: true; the input reads as it did. -/
def diskApartUptoRow : OpenClaim := { program := "ytfgdceeceehmpaa", sum := "4959170a86eccf065f35a785f67f38cb8f01729a740d7bb2beb84050c751ecc3", func := "haywain/haywainlaw13.DiskApart", spec := "diskApart", unfollowed := true, recurses := true, apart := false, narrowed := true }
def DiskApartUptoSaid : Prop := diskApartUptoRow.holds Try.pinned (OpenSpec.upto diskApartSpec)

/-- 'haywainlaw13.DiskCutsOff', WHERE WHAT IT READS IS OF BULK AT MOST 1048576: true; the input reads as it did. -/
def diskCutsOffUptoRow : OpenClaim := { program := "ytfgdceeceehmpaa", sum := "4959170a86eccf065f35a785f67f38cb8f01729a740d7bb2beb84050c751ecc3", func := "haywain/haywainlaw13.DiskCutsOff", spec := "diskCutsOff", unfollowed := true, recurses := true, apart := false, narrowed := true }
def DiskCutsOffUptoSaid : Prop := diskCutsOffUptoRow.holds Try.pinned (OpenSpec.upto diskCutsOffSpec)

end Rows
end Go.Proofs.Ytfgdceeceehmpaa
