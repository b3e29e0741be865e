-- Written by a program of this session out of the translation: a turned copy of the kit's print that takes functions proved by hand.
import Derived.Test.YtpachjomjoaipaaProg
import Derived.Below
import Derived.Deep.Draws
import Derived.Deep.AppendLies
import Derived.Maps.AppendAt
import Derived.OwnWalk
import Derived.Laws.BytesArg
import Derived.Laws.MakeOwn
import Derived.Laws.OwnMore
import Derived.Deep.OwnRows
import Derived.Tactics
import Derived.Lib.ConvBytes
import Derived.Laws.Slices
import Derived.WalkKit
import Derived.KernelRfl
import Derived.RowKit3
import Derived.Deep.LoopGhost
import Derived.Deep.QuietTactic
import Derived.BigQuiet
import Derived.WideLaws
import Derived.Deep.DeepCutAuto
import Derived.Deep.CutBlock
import Derived.Deep.RegionHeld3
import Derived.Laws.Rows
import Derived.Lib.AppendStr
import Derived.ArgAppend
import Derived.Laws.IdiomCopy
import Derived.OrdersHeld
import Derived.Laws.BitsLemmas
import Derived.RowKit
import Derived.Lib.Hide
import Derived.Lib.SlBytesConst
import Derived.Test.YtpachjomjoaipaaWWords
import Derived.Test.YtpachjomjoaipaaWLast
import Derived.Test.YtpachjomjoaipaaWTab
import Derived.Test.YtpachjomjoaipaaWFour
import Derived.Test.YtpachjomjoaipaaWQPut
import Derived.Test.YtpachjomjoaipaaWApart
import Derived.Test.YtpachjomjoaipaaWArr
import Derived.Test.YtpachjomjoaipaaWZeros
import Derived.Test.YtpachjomjoaipaaWFoot
import Derived.Test.YtpachjomjoaipaaWKept
import Derived.Test.YtpachjomjoaipaaWShare
import Derived.Test.YtpachjomjoaipaaWN
import Derived.Test.YtpachjomjoaipaaWFootNe
import Derived.Test.YtpachjomjoaipaaWAt
import Derived.Test.YtpachjomjoaipaaWEqStruct
import Derived.Test.YtpachjomjoaipaaWRepsOne
import Derived.Test.YtpachjomjoaipaaWInv
import Derived.Test.YtpachjomjoaipaaWInvWords
import Derived.Test.YtpachjomjoaipaaWGuard
import Derived.Test.YtpachjomjoaipaaWNEv
import Derived.Test.YtpachjomjoaipaaWMore
namespace Go.Proofs.Ytpachjomjoaipaa.PCodeBack
open Go.RowKit Go.Proofs.YtpachjomjoaipaaW.PrintWords Go.Proofs.YtpachjomjoaipaaW.PrintLast Go.Proofs.YtpachjomjoaipaaW.PrintMore
attribute [local go_sem] max2_int min2_int max_two min_two max_three min_three max_four min_four   -- for this text's walks alone
set_option linter.unusedVariables false
set_option linter.unusedSimpArgs false



def errW : Option Int → Value
  | none => .nilIface
  | some c => .iface 0 (.int .i64 c)
theorem errW_none : errW none = .nilIface := rfl
theorem errW_some (c : Int) : errW (some c) = .iface 0 (.int .i64 c) := rfl

theorem info5 : (Try.prog.info? 5).map (fun i => (i.zero, i.size, i.bytes)) = some (some (.int .u8 0), 1, 1) := by kernel_rfl
-- the values' own types

end Go.Proofs.Ytpachjomjoaipaa.PCodeBack
