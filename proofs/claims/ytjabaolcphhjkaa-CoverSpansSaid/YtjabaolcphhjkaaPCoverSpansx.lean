/- Written by a program of this session over the translation: functions, their walks, rows. No condition beyond those that each theorem names. -/
import Derived.Test.YtjabaolcphhjkaaPCoverSpansx0
import Derived.Test.YtjabaolcphhjkaaPCoverSpansx1
import Derived.Test.YtjabaolcphhjkaaPCoverSpansx2
import Derived.Test.YtjabaolcphhjkaaPCoverSpansx3
import Derived.Test.YtjabaolcphhjkaaPCoverSpansx4
import Derived.Test.YtjabaolcphhjkaaPCoverSpansx5
import Derived.Test.YtjabaolcphhjkaaPCoverSpansXCount
import Derived.Test.YtjabaolcphhjkaaPCoverSpansXRange
import Derived.Test.YtjabaolcphhjkaaPCoverSpansXRest
namespace Go.Proofs.Ytjabaolcphhjkaa.PCoverSpans
open Go.RowKit Go.Proofs.YtjabaolcphhjkaaW.PrintWords Go.Proofs.YtjabaolcphhjkaaW.PrintLast Go.Proofs.YtjabaolcphhjkaaW.PrintMore
attribute [local go_sem] max2_int min2_int max_two min_two max_three min_three max_four min_four   -- for this text's walks alone
set_option linter.unusedVariables false
set_option linter.unusedSimpArgs false

end Go.Proofs.Ytjabaolcphhjkaa.PCoverSpans
