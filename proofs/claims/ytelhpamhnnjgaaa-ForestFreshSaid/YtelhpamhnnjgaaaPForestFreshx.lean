/- Written by a program of this session over the translation: functions, their walks, rows. No condition beyond those that each theorem names. -/
import Derived.Test.YtelhpamhnnjgaaaPForestFreshx0
import Derived.Test.YtelhpamhnnjgaaaPForestFreshx1
import Derived.Test.YtelhpamhnnjgaaaPForestFreshx2
import Derived.Test.YtelhpamhnnjgaaaPForestFreshx3
import Derived.Test.YtelhpamhnnjgaaaPForestFreshx4
import Derived.Test.YtelhpamhnnjgaaaPForestFreshXRoot
import Derived.Test.YtelhpamhnnjgaaaPForestFreshXSha
namespace Go.Proofs.Ytelhpamhnnjgaaa.PForestFresh
open Go.RowKit Go.Proofs.YtelhpamhnnjgaaaW.PrintWords Go.Proofs.YtelhpamhnnjgaaaW.PrintLast Go.Proofs.YtelhpamhnnjgaaaW.PrintMore
attribute [local go_sem] max2_int min2_int max_two min_two max_three min_three max_four min_four   -- for this text's walks alone
set_option linter.unusedVariables false
set_option linter.unusedSimpArgs false

end Go.Proofs.Ytelhpamhnnjgaaa.PForestFresh
