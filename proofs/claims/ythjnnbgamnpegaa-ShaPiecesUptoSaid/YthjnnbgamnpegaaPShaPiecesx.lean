/- Written by a program of this session over the translation: functions, their walks, rows. No condition beyond those that each theorem names. -/
import Derived.Test.YthjnnbgamnpegaaPShaPiecesx0
import Derived.Test.YthjnnbgamnpegaaPShaPiecesx1
import Derived.Test.YthjnnbgamnpegaaPShaPiecesXSha
namespace Go.Proofs.Ythjnnbgamnpegaa.PShaPieces
open Go.RowKit Go.Proofs.YthjnnbgamnpegaaW.PrintWords Go.Proofs.YthjnnbgamnpegaaW.PrintLast Go.Proofs.YthjnnbgamnpegaaW.PrintMore
attribute [local go_sem] max2_int min2_int max_two min_two max_three min_three max_four min_four   -- for this text's walks alone
set_option linter.unusedVariables false
set_option linter.unusedSimpArgs false

end Go.Proofs.Ythjnnbgamnpegaa.PShaPieces
