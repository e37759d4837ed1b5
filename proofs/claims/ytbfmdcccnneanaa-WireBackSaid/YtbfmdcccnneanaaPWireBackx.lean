/- Written by a program of this session over the translation: functions, their walks, rows. No condition beyond those that each theorem names. -/
import Derived.Test.YtbfmdcccnneanaaPWireBackx0
import Derived.Test.YtbfmdcccnneanaaPWireBackx1
import Derived.Test.YtbfmdcccnneanaaPWireBackx2
import Derived.Test.YtbfmdcccnneanaaPWireBackx3
namespace Go.Proofs.Ytbfmdcccnneanaa.PWireBack
open Go.RowKit Go.Proofs.YtbfmdcccnneanaaW.PrintWords Go.Proofs.YtbfmdcccnneanaaW.PrintLast Go.Proofs.YtbfmdcccnneanaaW.PrintMore
attribute [local go_sem] max2_int min2_int max_two min_two max_three min_three max_four min_four   -- for this text's walks alone
set_option linter.unusedVariables false
set_option linter.unusedSimpArgs false

end Go.Proofs.Ytbfmdcccnneanaa.PWireBack
