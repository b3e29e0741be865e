/-
  No cell of these rows narrows 'for every input' (looked for: loops, veiled, ifaces, maps, wideKeys, modest, calm, conditions, laid).
  DERIVED. THE GIVEN ROWS OF THIS SEAT. 6 by the template 'for every input the law returns true; each argument reads behind the call as it read before'; 0 by the template 'total and deterministic' (their statements: YtndccmilcffedaaTotals.lean).
  GIVEN WITH THE SEED: the statements are not yours to turn. If you find one false, say at which input.
  Laid BY PROGRAM, IN A SANDBOX (cutbox-rows.mjs): the forced cells as the released guide's own fill.sh prints them over the translation dfe7654b68546998… (all of the seat's roots in one cut). By AI agents, Wed Nov 11 2026. No macro, syntax, notation, axiom, sorry.
-/
import Derived.Test.YtndccmilcffedaaChecked
import GoSem.Claim
import GoSem.ClaimJoined
import GoSem.ClaimMapViews
import Derived.JoinedTies
import Derived.KernelRfl
namespace Go.Proofs.Ytndccmilcffedaa
/- THE CELL 'sum', in the pinned program and in every row, IS THE sha256 OF THE DUMP (.gsa) THAT YtndccmilcffedaaProg.lean LOADS. Nothing in Lean hashes anything: it is a label: what it is worth is what the hold of that sum in a sandbox is worth. -/
noncomputable def Try.pinned : Pinned := { name := "ytndccmilcffedaa", sum := "dfe7654b68546998728581b81291611753836939f0e76d5bc04b4af56b002a91", checked := Try.checked }
namespace Rows
def none {H : Type} : Left H := { results := [], args := [] }

/-- 'haywainlaw16.LinkPlays': WHATEVER THE INPUT: true; the input reads as it did. -/
def linkPlaysSpec : ChangeSpec := { name := "linkPlays", fn := fun _ => fun
  | [d1, d2] => { results := [.lit (.bool true)], args := [d1, d2] }
  | _ => none }
def linkPlaysRow : OpenClaim := { program := "ytndccmilcffedaa", sum := "dfe7654b68546998728581b81291611753836939f0e76d5bc04b4af56b002a91", func := "haywain/haywainlaw16.LinkPlays", spec := "linkPlays", apart := false }
def LinkPlaysSaid : Prop := linkPlaysRow.holds Try.pinned (OpenSpec.ofChange linkPlaysSpec)

/-- ITS FALSE NEIGHBOUR: 'it returns false'. Refute it at one input. -/
def linkPlaysWrong : ChangeSpec := { name := "linkPlays", fn := fun _ => fun
  | [d1, d2] => { results := [.lit (.bool false)], args := [d1, d2] }
  | _ => none }
def LinkPlaysWrongFalsely : Prop := linkPlaysRow.holds Try.pinned (OpenSpec.ofChange linkPlaysWrong)

/-- 'haywainlaw16.LinkStays': WHATEVER THE INPUT: true; the input reads as it did. -/
def linkStaysSpec : ChangeSpec := { name := "linkStays", fn := fun _ => fun
  | [d1, d2] => { results := [.lit (.bool true)], args := [d1, d2] }
  | _ => none }
def linkStaysRow : OpenClaim := { program := "ytndccmilcffedaa", sum := "dfe7654b68546998728581b81291611753836939f0e76d5bc04b4af56b002a91", func := "haywain/haywainlaw16.LinkStays", spec := "linkStays", apart := false }
def LinkStaysSaid : Prop := linkStaysRow.holds Try.pinned (OpenSpec.ofChange linkStaysSpec)

/-- ITS FALSE NEIGHBOUR: 'it returns false'. Refute it at one input. -/
def linkStaysWrong : ChangeSpec := { name := "linkStays", fn := fun _ => fun
  | [d1, d2] => { results := [.lit (.bool false)], args := [d1, d2] }
  | _ => none }
def LinkStaysWrongFalsely : Prop := linkStaysRow.holds Try.pinned (OpenSpec.ofChange linkStaysWrong)

/-- 'haywainlaw16.LinkOrders': WHATEVER THE INPUT: true; the input reads as it did. -/
def linkOrdersSpec : ChangeSpec := { name := "linkOrders", fn := fun _ => fun
  | [d] => { results := [.lit (.bool true)], args := [d] }
  | _ => none }
def linkOrdersRow : OpenClaim := { program := "ytndccmilcffedaa", sum := "dfe7654b68546998728581b81291611753836939f0e76d5bc04b4af56b002a91", func := "haywain/haywainlaw16.LinkOrders", spec := "linkOrders", apart := false }
def LinkOrdersSaid : Prop := linkOrdersRow.holds Try.pinned (OpenSpec.ofChange linkOrdersSpec)

/-- ITS FALSE NEIGHBOUR: 'it returns false'. Refute it at one input. -/
def linkOrdersWrong : ChangeSpec := { name := "linkOrders", fn := fun _ => fun
  | [d] => { results := [.lit (.bool false)], args := [d] }
  | _ => none }
def LinkOrdersWrongFalsely : Prop := linkOrdersRow.holds Try.pinned (OpenSpec.ofChange linkOrdersWrong)

/-- 'haywainlaw16.LinkSettles': WHATEVER THE INPUT: true; the input reads as it did. -/
def linkSettlesSpec : ChangeSpec := { name := "linkSettles", fn := fun _ => fun
  | [d] => { results := [.lit (.bool true)], args := [d] }
  | _ => none }
def linkSettlesRow : OpenClaim := { program := "ytndccmilcffedaa", sum := "dfe7654b68546998728581b81291611753836939f0e76d5bc04b4af56b002a91", func := "haywain/haywainlaw16.LinkSettles", spec := "linkSettles", apart := false }
def LinkSettlesSaid : Prop := linkSettlesRow.holds Try.pinned (OpenSpec.ofChange linkSettlesSpec)

/-- ITS FALSE NEIGHBOUR: 'it returns false'. Refute it at one input. -/
def linkSettlesWrong : ChangeSpec := { name := "linkSettles", fn := fun _ => fun
  | [d] => { results := [.lit (.bool false)], args := [d] }
  | _ => none }
def LinkSettlesWrongFalsely : Prop := linkSettlesRow.holds Try.pinned (OpenSpec.ofChange linkSettlesWrong)

/-- 'haywainlaw16.LinkAcked': WHATEVER THE INPUT: true; the input reads as it did. -/
def linkAckedSpec : ChangeSpec := { name := "linkAcked", fn := fun _ => fun
  | [d1, d2] => { results := [.lit (.bool true)], args := [d1, d2] }
  | _ => none }
def linkAckedRow : OpenClaim := { program := "ytndccmilcffedaa", sum := "dfe7654b68546998728581b81291611753836939f0e76d5bc04b4af56b002a91", func := "haywain/haywainlaw16.LinkAcked", spec := "linkAcked", apart := false }
def LinkAckedSaid : Prop := linkAckedRow.holds Try.pinned (OpenSpec.ofChange linkAckedSpec)

/-- ITS FALSE NEIGHBOUR: 'it returns false'. Refute it at one input. -/
def linkAckedWrong : ChangeSpec := { name := "linkAcked", fn := fun _ => fun
  | [d1, d2] => { results := [.lit (.bool false)], args := [d1, d2] }
  | _ => none }
def LinkAckedWrongFalsely : Prop := linkAckedRow.holds Try.pinned (OpenSpec.ofChange linkAckedWrong)

/-- 'haywainlaw16.LinkIdle': WHATEVER THE INPUT: true; the input reads as it did. -/
def linkIdleSpec : ChangeSpec := { name := "linkIdle", fn := fun _ => fun
  | [d1, d2] => { results := [.lit (.bool true)], args := [d1, d2] }
  | _ => none }
def linkIdleRow : OpenClaim := { program := "ytndccmilcffedaa", sum := "dfe7654b68546998728581b81291611753836939f0e76d5bc04b4af56b002a91", func := "haywain/haywainlaw16.LinkIdle", spec := "linkIdle", apart := false }
def LinkIdleSaid : Prop := linkIdleRow.holds Try.pinned (OpenSpec.ofChange linkIdleSpec)

/-- ITS FALSE NEIGHBOUR: 'it returns false'. Refute it at one input. -/
def linkIdleWrong : ChangeSpec := { name := "linkIdle", fn := fun _ => fun
  | [d1, d2] => { results := [.lit (.bool false)], args := [d1, d2] }
  | _ => none }
def LinkIdleWrongFalsely : Prop := linkIdleRow.holds Try.pinned (OpenSpec.ofChange linkIdleWrong)

/- THE SECOND FORM. 'bulk': how many values and letters a reading holds, each counted each time it is reached (what is shared counts as often as it is met; a slice's spare places count too). A statement '..UptoSaid' is the law's where the arguments, and the package variables that the reading takes, are together of bulk at most 1048576: NARROWER than '..Said'. Prove '..Said' where nothing that the law and all that it calls make is longer than what came in: it says more and counts as full. Else prove '..UptoSaid'. A law counts once. -/
mutual
def uptoBulk {H : Type} : DataW H → Nat
  | .lit (.string bytes) => bytes.length + 1
  | .lit _ => 1
  | .nil => 1
  | .ptr d => uptoBulk d + 1
  | .slice elems spare => uptoBulkAll elems + uptoBulkAll spare + 1
  | .agg parts => uptoBulkAll parts + 1
  | .iface _ d => uptoBulk d + 1
  | .map entries => uptoBulkEntries entries + 1
  | .held _ => 1
def uptoBulkAll {H : Type} : List (DataW H) → Nat
  | [] => 0
  | d :: r => uptoBulk d + uptoBulkAll r
def uptoBulkEntries {H : Type} : List (Lit × DataW H) → Nat
  | [] => 0
  | x :: r => uptoBulkEntry x + uptoBulkEntries r
def uptoBulkEntry {H : Type} : Lit × DataW H → Nat
  | (.string bytes, d) => bytes.length + uptoBulk d + 1
  | (_, d) => uptoBulk d + 1
 end
def uptoSmall : (H : Type) → List (DataW H) → Bool := fun _ ds => decide (uptoBulkAll ds ≤ 1048576)
def OpenSpec.upto (s : _root_.Go.ChangeSpec) : _root_.Go.OpenSpec := { _root_.Go.OpenSpec.ofChange s with cond := some uptoSmall }

/-- 'haywainlaw16.LinkPlays', WHERE WHAT IT READS IS OF BULK AT MOST 1048576: true; the input reads as it did. -/
def linkPlaysUptoRow : OpenClaim := { program := "ytndccmilcffedaa", sum := "dfe7654b68546998728581b81291611753836939f0e76d5bc04b4af56b002a91", func := "haywain/haywainlaw16.LinkPlays", spec := "linkPlays", apart := false, narrowed := true }
def LinkPlaysUptoSaid : Prop := linkPlaysUptoRow.holds Try.pinned (OpenSpec.upto linkPlaysSpec)

/-- 'haywainlaw16.LinkStays', WHERE WHAT IT READS IS OF BULK AT MOST 1048576: true; the input reads as it did. -/
def linkStaysUptoRow : OpenClaim := { program := "ytndccmilcffedaa", sum := "dfe7654b68546998728581b81291611753836939f0e76d5bc04b4af56b002a91", func := "haywain/haywainlaw16.LinkStays", spec := "linkStays", apart := false, narrowed := true }
def LinkStaysUptoSaid : Prop := linkStaysUptoRow.holds Try.pinned (OpenSpec.upto linkStaysSpec)

/-- 'haywainlaw16.LinkOrders', WHERE WHAT IT READS IS OF BULK AT MOST 1048576: true; the input reads as it did. -/
def linkOrdersUptoRow : OpenClaim := { program := "ytndccmilcffedaa", sum := "dfe7654b68546998728581b81291611753836939f0e76d5bc04b4af56b002a91", func := "haywain/haywainlaw16.LinkOrders", spec := "linkOrders", apart := false, narrowed := true }
def LinkOrdersUptoSaid : Prop := linkOrdersUptoRow.holds Try.pinned (OpenSpec.upto linkOrdersSpec)

/-- 'haywainlaw16.LinkSettles', WHERE WHAT IT READS IS OF BULK AT MOST 1048576: true; the input reads as it did. -/
def linkSettlesUptoRow : OpenClaim := { program := "ytndccmilcffedaa", sum := "dfe7654b68546998728581b81291611753836939f0e76d5bc04b4af56b002a91", func := "haywain/haywainlaw16.LinkSettles", spec := "linkSettles", apart := false, narrowed := true }
def LinkSettlesUptoSaid : Prop := linkSettlesUptoRow.holds Try.pinned (OpenSpec.upto linkSettlesSpec)

/-- 'haywainlaw16.LinkAcked', WHERE WHAT IT READS IS OF BULK AT MOST 1048576: true; the input reads as it did. -/
def linkAckedUptoRow : OpenClaim := { program := "ytndccmilcffedaa", sum := "dfe7654b68546998728581b81291611753836939f0e76d5bc04b4af56b002a91", func := "haywain/haywainlaw16.LinkAcked", spec := "linkAcked", apart := false, narrowed := true }
def LinkAckedUptoSaid : Prop := linkAckedUptoRow.holds Try.pinned (OpenSpec.upto linkAckedSpec)

/-- 'haywainlaw16.LinkIdle', WHERE WHAT IT READS IS OF BULK AT MOST 1048576: true; the input reads as it did. -/
def linkIdleUptoRow : OpenClaim := { program := "ytndccmilcffedaa", sum := "dfe7654b68546998728581b81291611753836939f0e76d5bc04b4af56b002a91", func := "haywain/haywainlaw16.LinkIdle", spec := "linkIdle", apart := false, narrowed := true }
def LinkIdleUptoSaid : Prop := linkIdleUptoRow.holds Try.pinned (OpenSpec.upto linkIdleSpec)

end Rows
end Go.Proofs.Ytndccmilcffedaa
