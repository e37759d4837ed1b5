-- PRINTED BY print.sh 35421559b90ae4d0a3588c463048766b98c2df88dd9212a6774a882060cdf62d: not written by this session
import Derived.Test.YtlbehenaoiddkaaProg
import Derived.Below
import Derived.Deep.Draws
import Derived.Deep.AppendLies
import Derived.Maps.AppendAt
import Derived.OwnWalk
import Derived.Laws.BytesArg
import Derived.Laws.MakeOwn
import Derived.Laws.OwnMore
import Derived.Deep.OwnRows
import Derived.Tactics
import Derived.Lib.ConvBytes
import Derived.Laws.Slices
import Derived.WalkKit
import Derived.KernelRfl
import Derived.RowKit3
import Derived.Deep.LoopGhost
import Derived.Deep.QuietTactic
import Derived.BigQuiet
import Derived.WideLaws
import Derived.Deep.DeepCutAuto
import Derived.Deep.CutBlock
import Derived.Deep.RegionHeld3
import Derived.Laws.Rows
import Derived.Lib.AppendStr
import Derived.ArgAppend
import Derived.Laws.IdiomCopy
import Derived.OrdersHeld
import Derived.Laws.BitsLemmas
import Derived.RowKit
import Derived.Test.YtlbehenaoiddkaaWWords
import Derived.Test.YtlbehenaoiddkaaWLast
import Derived.Test.YtlbehenaoiddkaaWTab
import Derived.Test.YtlbehenaoiddkaaWFour
import Derived.Test.YtlbehenaoiddkaaWQPut
import Derived.Test.YtlbehenaoiddkaaWApart
import Derived.Test.YtlbehenaoiddkaaWArr
import Derived.Test.YtlbehenaoiddkaaWZeros
import Derived.Test.YtlbehenaoiddkaaWFoot
import Derived.Test.YtlbehenaoiddkaaWKept
import Derived.Test.YtlbehenaoiddkaaWShare
import Derived.Test.YtlbehenaoiddkaaWN
import Derived.Test.YtlbehenaoiddkaaWFootNe
import Derived.Test.YtlbehenaoiddkaaWAt
import Derived.Test.YtlbehenaoiddkaaWEqStruct
import Derived.Test.YtlbehenaoiddkaaWRepsOne
import Derived.Test.YtlbehenaoiddkaaWInv
import Derived.Test.YtlbehenaoiddkaaWInvWords
import Derived.Test.YtlbehenaoiddkaaWGuard
import Derived.Test.YtlbehenaoiddkaaWNEv
import Derived.Test.YtlbehenaoiddkaaWMore
namespace Go.Proofs.Ytlbehenaoiddkaa.PPlacePostorder
open Go.RowKit Go.Proofs.YtlbehenaoiddkaaW.PrintWords Go.Proofs.YtlbehenaoiddkaaW.PrintLast Go.Proofs.YtlbehenaoiddkaaW.PrintMore
attribute [local go_sem] max2_int min2_int max_two min_two max_three min_three max_four min_four   -- for this text's walks alone
set_option linter.unusedVariables false
set_option linter.unusedSimpArgs false



def errW : Option Int → Value
  | none => .nilIface
  | some c => .iface 0 (.int .i64 c)
theorem errW_none : errW none = .nilIface := rfl
theorem errW_some (c : Int) : errW (some c) = .iface 0 (.int .i64 c) := rfl

theorem info22 : (Try.prog.info? 22).map (fun i => (i.zero, i.size, i.bytes)) = some (some (.int .u64 0), 1, 8) := by kernel_rfl
-- the values' own types

end Go.Proofs.Ytlbehenaoiddkaa.PPlacePostorder
