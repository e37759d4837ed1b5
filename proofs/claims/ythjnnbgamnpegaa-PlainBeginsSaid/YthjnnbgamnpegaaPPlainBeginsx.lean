/- Written by a program of this session over the translation: functions, their walks, rows. No condition beyond those that each theorem names. -/
import Derived.Test.YthjnnbgamnpegaaPPlainBeginsx0
import Derived.Test.YthjnnbgamnpegaaPPlainBeginsx1
import Derived.Test.YthjnnbgamnpegaaPPlainBeginsx2
import Derived.Test.YthjnnbgamnpegaaPPlainBeginsx3
import Derived.Test.YthjnnbgamnpegaaPPlainBeginsx4
import Derived.Test.YthjnnbgamnpegaaPPlainBeginsx5
import Derived.Test.YthjnnbgamnpegaaPPlainBeginsXRoot
import Derived.Test.YthjnnbgamnpegaaPPlainBeginsXSha
namespace Go.Proofs.Ythjnnbgamnpegaa.PPlainBegins
open Go.RowKit Go.Proofs.YthjnnbgamnpegaaW.PrintWords Go.Proofs.YthjnnbgamnpegaaW.PrintLast Go.Proofs.YthjnnbgamnpegaaW.PrintMore
attribute [local go_sem] max2_int min2_int max_two min_two max_three min_three max_four min_four   -- for this text's walks alone
set_option linter.unusedVariables false
set_option linter.unusedSimpArgs false

end Go.Proofs.Ythjnnbgamnpegaa.PPlainBegins
