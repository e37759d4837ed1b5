/- Written by a program of this session over the translation: functions, their walks, rows. No condition beyond those that each theorem names. -/
import Derived.Test.YtjabaolcphhjkaaPCoverLeavesx0
import Derived.Test.YtjabaolcphhjkaaPCoverLeavesx1
import Derived.Test.YtjabaolcphhjkaaPCoverLeavesx2
import Derived.Test.YtjabaolcphhjkaaPCoverLeavesx3
import Derived.Test.YtjabaolcphhjkaaPCoverLeavesx4
import Derived.Test.YtjabaolcphhjkaaPCoverLeavesx5
import Derived.Test.YtjabaolcphhjkaaPCoverLeavesx6
import Derived.Test.YtjabaolcphhjkaaPCoverLeavesXCount
import Derived.Test.YtjabaolcphhjkaaPCoverLeavesXRange
import Derived.Test.YtjabaolcphhjkaaPCoverLeavesXRest
namespace Go.Proofs.Ytjabaolcphhjkaa.PCoverLeaves
open Go.RowKit Go.Proofs.YtjabaolcphhjkaaW.PrintWords Go.Proofs.YtjabaolcphhjkaaW.PrintLast Go.Proofs.YtjabaolcphhjkaaW.PrintMore
attribute [local go_sem] max2_int min2_int max_two min_two max_three min_three max_four min_four   -- for this text's walks alone
set_option linter.unusedVariables false
set_option linter.unusedSimpArgs false

end Go.Proofs.Ytjabaolcphhjkaa.PCoverLeaves
