/- Written by a program of this session over the translation: functions, their walks, rows. No condition beyond those that each theorem names. -/
import Derived.Test.YtalhbgokelodoaaProg
import Derived.Below
import Derived.Deep.Draws
import Derived.Deep.AppendLies
import Derived.Maps.AppendAt
import Derived.OwnWalk
import Derived.Laws.BytesArg
import Derived.Laws.MakeOwn
import Derived.Laws.OwnMore
import Derived.Deep.OwnRows
import Derived.Tactics
import Derived.Lib.ConvBytes
import Derived.Laws.Slices
import Derived.WalkKit
import Derived.KernelRfl
import Derived.RowKit3
import Derived.Deep.LoopGhost
import Derived.Deep.QuietTactic
import Derived.BigQuiet
import Derived.WideLaws
import Derived.Deep.DeepCutAuto
import Derived.Deep.CutBlock
import Derived.Deep.RegionHeld3
import Derived.Laws.Rows
import Derived.Lib.AppendStr
import Derived.ArgAppend
import Derived.Laws.IdiomCopy
import Derived.OrdersHeld
import Derived.Laws.BitsLemmas
import Derived.RowKit
import Derived.Test.YtalhbgokelodoaaWWords
import Derived.Test.YtalhbgokelodoaaWLast
import Derived.Test.YtalhbgokelodoaaWTab
import Derived.Test.YtalhbgokelodoaaWFour
import Derived.Test.YtalhbgokelodoaaWQPut
import Derived.Test.YtalhbgokelodoaaWApart
import Derived.Test.YtalhbgokelodoaaWArr
import Derived.Test.YtalhbgokelodoaaWZeros
import Derived.Test.YtalhbgokelodoaaWFoot
import Derived.Test.YtalhbgokelodoaaWKept
import Derived.Test.YtalhbgokelodoaaWShare
import Derived.Test.YtalhbgokelodoaaWN
import Derived.Test.YtalhbgokelodoaaWFootNe
import Derived.Test.YtalhbgokelodoaaWAt
import Derived.Test.YtalhbgokelodoaaWEqStruct
import Derived.Test.YtalhbgokelodoaaWRepsOne
import Derived.Test.YtalhbgokelodoaaWInv
import Derived.Test.YtalhbgokelodoaaWInvWords
import Derived.Test.YtalhbgokelodoaaWGuard
import Derived.Test.YtalhbgokelodoaaWNEv
import Derived.Test.YtalhbgokelodoaaWMore
namespace Go.Proofs.Ytalhbgokelodoaa.PWireReads
open Go.RowKit Go.Proofs.YtalhbgokelodoaaW.PrintWords Go.Proofs.YtalhbgokelodoaaW.PrintLast Go.Proofs.YtalhbgokelodoaaW.PrintMore
attribute [local go_sem] max2_int min2_int max_two min_two max_three min_three max_four min_four   -- for this text's walks alone
set_option linter.unusedVariables false
set_option linter.unusedSimpArgs false



def errW : Option Int → Value
  | none => .nilIface
  | some c => .iface 0 (.int .i64 c)
theorem errW_none : errW none = .nilIface := rfl
theorem errW_some (c : Int) : errW (some c) = .iface 0 (.int .i64 c) := rfl

theorem info5 : (Try.prog.info? 5).map (fun i => (i.zero, i.size, i.bytes)) = some (some (.int .u8 0), 1, 1) := by kernel_rfl
-- the values' own types

end Go.Proofs.Ytalhbgokelodoaa.PWireReads
