/- Written by a program of this session over the translation: functions, their walks, rows. No condition beyond those that each theorem names. -/
import Derived.Test.YtdclafjgfnbibaaPPeaksRefusedx0
import Derived.Test.YtdclafjgfnbibaaPPeaksRefusedx1
import Derived.Test.YtdclafjgfnbibaaPPeaksRefusedx2
import Derived.Test.YtdclafjgfnbibaaPPeaksRefusedx3
import Derived.Test.YtdclafjgfnbibaaPPeaksRefusedXRoot
import Derived.Test.YtdclafjgfnbibaaPPeaksRefusedXSha
namespace Go.Proofs.Ytdclafjgfnbibaa.PPeaksRefused
open Go.RowKit Go.Proofs.YtdclafjgfnbibaaW.PrintWords Go.Proofs.YtdclafjgfnbibaaW.PrintLast Go.Proofs.YtdclafjgfnbibaaW.PrintMore
attribute [local go_sem] max2_int min2_int max_two min_two max_three min_three max_four min_four   -- for this text's walks alone
set_option linter.unusedVariables false
set_option linter.unusedSimpArgs false

end Go.Proofs.Ytdclafjgfnbibaa.PPeaksRefused
