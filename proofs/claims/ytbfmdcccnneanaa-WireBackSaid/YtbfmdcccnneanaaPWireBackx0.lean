/- Written by a program of this session over the translation: functions, their walks, rows. No condition beyond those that each theorem names. -/
import Derived.Test.YtbfmdcccnneanaaProg
import Derived.Below
import Derived.Deep.Draws
import Derived.Deep.AppendLies
import Derived.Maps.AppendAt
import Derived.OwnWalk
import Derived.Laws.BytesArg
import Derived.Laws.MakeOwn
import Derived.Laws.OwnMore
import Derived.Deep.OwnRows
import Derived.Tactics
import Derived.Lib.ConvBytes
import Derived.Laws.Slices
import Derived.WalkKit
import Derived.KernelRfl
import Derived.RowKit3
import Derived.Deep.LoopGhost
import Derived.Deep.QuietTactic
import Derived.BigQuiet
import Derived.WideLaws
import Derived.Deep.DeepCutAuto
import Derived.Deep.CutBlock
import Derived.Deep.RegionHeld3
import Derived.Laws.Rows
import Derived.Lib.AppendStr
import Derived.ArgAppend
import Derived.Laws.IdiomCopy
import Derived.OrdersHeld
import Derived.Laws.BitsLemmas
import Derived.RowKit
import Derived.Test.YtbfmdcccnneanaaWWords
import Derived.Test.YtbfmdcccnneanaaWLast
import Derived.Test.YtbfmdcccnneanaaWTab
import Derived.Test.YtbfmdcccnneanaaWFour
import Derived.Test.YtbfmdcccnneanaaWQPut
import Derived.Test.YtbfmdcccnneanaaWApart
import Derived.Test.YtbfmdcccnneanaaWArr
import Derived.Test.YtbfmdcccnneanaaWZeros
import Derived.Test.YtbfmdcccnneanaaWFoot
import Derived.Test.YtbfmdcccnneanaaWKept
import Derived.Test.YtbfmdcccnneanaaWShare
import Derived.Test.YtbfmdcccnneanaaWN
import Derived.Test.YtbfmdcccnneanaaWFootNe
import Derived.Test.YtbfmdcccnneanaaWAt
import Derived.Test.YtbfmdcccnneanaaWEqStruct
import Derived.Test.YtbfmdcccnneanaaWRepsOne
import Derived.Test.YtbfmdcccnneanaaWInv
import Derived.Test.YtbfmdcccnneanaaWInvWords
import Derived.Test.YtbfmdcccnneanaaWGuard
import Derived.Test.YtbfmdcccnneanaaWNEv
import Derived.Test.YtbfmdcccnneanaaWMore
namespace Go.Proofs.Ytbfmdcccnneanaa.PWireBack
open Go.RowKit Go.Proofs.YtbfmdcccnneanaaW.PrintWords Go.Proofs.YtbfmdcccnneanaaW.PrintLast Go.Proofs.YtbfmdcccnneanaaW.PrintMore
attribute [local go_sem] max2_int min2_int max_two min_two max_three min_three max_four min_four   -- for this text's walks alone
set_option linter.unusedVariables false
set_option linter.unusedSimpArgs false



def errW : Option Int → Value
  | none => .nilIface
  | some c => .iface 0 (.int .i64 c)
theorem errW_none : errW none = .nilIface := rfl
theorem errW_some (c : Int) : errW (some c) = .iface 0 (.int .i64 c) := rfl

theorem info5 : (Try.prog.info? 5).map (fun i => (i.zero, i.size, i.bytes)) = some (some (.int .u8 0), 1, 1) := by kernel_rfl
-- the values' own types

end Go.Proofs.Ytbfmdcccnneanaa.PWireBack
