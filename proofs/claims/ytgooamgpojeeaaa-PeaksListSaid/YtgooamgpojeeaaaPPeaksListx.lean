/- Written by a program of this session over the translation: functions, their walks, rows. No condition beyond those that each theorem names. -/
import Derived.Test.YtgooamgpojeeaaaPPeaksListx0
import Derived.Test.YtgooamgpojeeaaaPPeaksListx1
import Derived.Test.YtgooamgpojeeaaaPPeaksListx2
import Derived.Test.YtgooamgpojeeaaaPPeaksListx3
import Derived.Test.YtgooamgpojeeaaaPPeaksListx4
import Derived.Test.YtgooamgpojeeaaaPPeaksListx5
import Derived.Test.YtgooamgpojeeaaaPPeaksListx6
import Derived.Test.YtgooamgpojeeaaaPPeaksListXRoot
import Derived.Test.YtgooamgpojeeaaaPPeaksListXSha
namespace Go.Proofs.Ytgooamgpojeeaaa.PPeaksList
open Go.RowKit Go.Proofs.YtgooamgpojeeaaaW.PrintWords Go.Proofs.YtgooamgpojeeaaaW.PrintLast Go.Proofs.YtgooamgpojeeaaaW.PrintMore
attribute [local go_sem] max2_int min2_int max_two min_two max_three min_three max_four min_four   -- for this text's walks alone
set_option linter.unusedVariables false
set_option linter.unusedSimpArgs false

end Go.Proofs.Ytgooamgpojeeaaa.PPeaksList
