/- Written by a program of this session over the translation: functions, their walks, rows. No condition beyond those that each theorem names. -/
import Derived.Test.YtalhbgokelodoaaPWireReadsx0
import Derived.Test.YtalhbgokelodoaaPWireReadsx1
import Derived.Test.YtalhbgokelodoaaPWireReadsx2
import Derived.Test.YtalhbgokelodoaaPWireReadsx3
import Derived.Test.YtalhbgokelodoaaPWireReadsx4
namespace Go.Proofs.Ytalhbgokelodoaa.PWireReads
open Go.RowKit Go.Proofs.YtalhbgokelodoaaW.PrintWords Go.Proofs.YtalhbgokelodoaaW.PrintLast Go.Proofs.YtalhbgokelodoaaW.PrintMore
attribute [local go_sem] max2_int min2_int max_two min_two max_three min_three max_four min_four   -- for this text's walks alone
set_option linter.unusedVariables false
set_option linter.unusedSimpArgs false

end Go.Proofs.Ytalhbgokelodoaa.PWireReads
