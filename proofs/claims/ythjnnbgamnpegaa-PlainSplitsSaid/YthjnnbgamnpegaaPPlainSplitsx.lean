/- Written by a program of this session over the translation: functions, their walks, rows. No condition beyond those that each theorem names. -/
import Derived.Test.YthjnnbgamnpegaaPPlainSplitsx0
import Derived.Test.YthjnnbgamnpegaaPPlainSplitsx1
import Derived.Test.YthjnnbgamnpegaaPPlainSplitsx2
import Derived.Test.YthjnnbgamnpegaaPPlainSplitsx3
import Derived.Test.YthjnnbgamnpegaaPPlainSplitsx4
import Derived.Test.YthjnnbgamnpegaaPPlainSplitsx5
import Derived.Test.YthjnnbgamnpegaaPPlainSplitsx6
import Derived.Test.YthjnnbgamnpegaaPPlainSplitsx7
import Derived.Test.YthjnnbgamnpegaaPPlainSplitsXRoot
import Derived.Test.YthjnnbgamnpegaaPPlainSplitsXSha
namespace Go.Proofs.Ythjnnbgamnpegaa.PPlainSplits
open Go.RowKit Go.Proofs.YthjnnbgamnpegaaW.PrintWords Go.Proofs.YthjnnbgamnpegaaW.PrintLast Go.Proofs.YthjnnbgamnpegaaW.PrintMore
attribute [local go_sem] max2_int min2_int max_two min_two max_three min_three max_four min_four   -- for this text's walks alone
set_option linter.unusedVariables false
set_option linter.unusedSimpArgs false

end Go.Proofs.Ythjnnbgamnpegaa.PPlainSplits
