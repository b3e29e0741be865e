-- Written by a program of this session out of the translation: a turned copy of the kit's print that takes functions proved by hand.
import Derived.Test.YtijmipkomihliaaProg
import Derived.Below
import Derived.Deep.Draws
import Derived.Deep.AppendLies
import Derived.Maps.AppendAt
import Derived.OwnWalk
import Derived.Laws.BytesArg
import Derived.Laws.MakeOwn
import Derived.Laws.OwnMore
import Derived.Deep.OwnRows
import Derived.Tactics
import Derived.Lib.ConvBytes
import Derived.Laws.Slices
import Derived.WalkKit
import Derived.KernelRfl
import Derived.RowKit3
import Derived.Deep.LoopGhost
import Derived.Deep.QuietTactic
import Derived.BigQuiet
import Derived.WideLaws
import Derived.Deep.DeepCutAuto
import Derived.Deep.CutBlock
import Derived.Deep.RegionHeld3
import Derived.Laws.Rows
import Derived.Lib.AppendStr
import Derived.ArgAppend
import Derived.Laws.IdiomCopy
import Derived.OrdersHeld
import Derived.Laws.BitsLemmas
import Derived.RowKit
import Derived.Lib.Hide
import Derived.Test.YtijmipkomihliaaWWords
import Derived.Test.YtijmipkomihliaaWLast
import Derived.Test.YtijmipkomihliaaWTab
import Derived.Test.YtijmipkomihliaaWFour
import Derived.Test.YtijmipkomihliaaWQPut
import Derived.Test.YtijmipkomihliaaWApart
import Derived.Test.YtijmipkomihliaaWArr
import Derived.Test.YtijmipkomihliaaWZeros
import Derived.Test.YtijmipkomihliaaWFoot
import Derived.Test.YtijmipkomihliaaWKept
import Derived.Test.YtijmipkomihliaaWShare
import Derived.Test.YtijmipkomihliaaWN
import Derived.Test.YtijmipkomihliaaWFootNe
import Derived.Test.YtijmipkomihliaaWAt
import Derived.Test.YtijmipkomihliaaWEqStruct
import Derived.Test.YtijmipkomihliaaWRepsOne
import Derived.Test.YtijmipkomihliaaWInv
import Derived.Test.YtijmipkomihliaaWInvWords
import Derived.Test.YtijmipkomihliaaWGuard
import Derived.Test.YtijmipkomihliaaWNEv
import Derived.Test.YtijmipkomihliaaWMore
namespace Go.Proofs.Ytijmipkomihliaa.PNumTurns
open Go.RowKit Go.Proofs.YtijmipkomihliaaW.PrintWords Go.Proofs.YtijmipkomihliaaW.PrintLast Go.Proofs.YtijmipkomihliaaW.PrintMore
attribute [local go_sem] max2_int min2_int max_two min_two max_three min_three max_four min_four   -- for this text's walks alone
set_option linter.unusedVariables false
set_option linter.unusedSimpArgs false



def errW : Option Int → Value
  | none => .nilIface
  | some c => .iface 0 (.int .i64 c)
theorem errW_none : errW none = .nilIface := rfl
theorem errW_some (c : Int) : errW (some c) = .iface 0 (.int .i64 c) := rfl

-- the values' own types

end Go.Proofs.Ytijmipkomihliaa.PNumTurns
