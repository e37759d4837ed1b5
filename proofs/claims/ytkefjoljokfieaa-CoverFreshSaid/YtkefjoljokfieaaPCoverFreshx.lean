/- Written by a program of this session over the translation: functions, their walks, rows. No condition beyond those that each theorem names. -/
import Derived.Test.YtkefjoljokfieaaPCoverFreshx0
import Derived.Test.YtkefjoljokfieaaPCoverFreshx1
import Derived.Test.YtkefjoljokfieaaPCoverFreshx2
import Derived.Test.YtkefjoljokfieaaPCoverFreshx3
import Derived.Test.YtkefjoljokfieaaPCoverFreshx4
import Derived.Test.YtkefjoljokfieaaPCoverFreshx5
import Derived.Test.YtkefjoljokfieaaPCoverFreshXCount
import Derived.Test.YtkefjoljokfieaaPCoverFreshXRange
import Derived.Test.YtkefjoljokfieaaPCoverFreshXRest
namespace Go.Proofs.Ytkefjoljokfieaa.PCoverFresh
open Go.RowKit Go.Proofs.YtkefjoljokfieaaW.PrintWords Go.Proofs.YtkefjoljokfieaaW.PrintLast Go.Proofs.YtkefjoljokfieaaW.PrintMore
attribute [local go_sem] max2_int min2_int max_two min_two max_three min_three max_four min_four   -- for this text's walks alone
set_option linter.unusedVariables false
set_option linter.unusedSimpArgs false

end Go.Proofs.Ytkefjoljokfieaa.PCoverFresh
