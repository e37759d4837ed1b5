/- Written by a program of this session over the translation: functions, their walks, rows. No condition beyond those that each theorem names. -/
import Derived.Test.YtelhpamhnnjgaaaPForestPlainx0
import Derived.Test.YtelhpamhnnjgaaaPForestPlainx1
import Derived.Test.YtelhpamhnnjgaaaPForestPlainx2
import Derived.Test.YtelhpamhnnjgaaaPForestPlainx3
import Derived.Test.YtelhpamhnnjgaaaPForestPlainx4
import Derived.Test.YtelhpamhnnjgaaaPForestPlainx5
import Derived.Test.YtelhpamhnnjgaaaPForestPlainXRoot
import Derived.Test.YtelhpamhnnjgaaaPForestPlainXSha
namespace Go.Proofs.Ytelhpamhnnjgaaa.PForestPlain
open Go.RowKit Go.Proofs.YtelhpamhnnjgaaaW.PrintWords Go.Proofs.YtelhpamhnnjgaaaW.PrintLast Go.Proofs.YtelhpamhnnjgaaaW.PrintMore
attribute [local go_sem] max2_int min2_int max_two min_two max_three min_three max_four min_four   -- for this text's walks alone
set_option linter.unusedVariables false
set_option linter.unusedSimpArgs false

end Go.Proofs.Ytelhpamhnnjgaaa.PForestPlain
