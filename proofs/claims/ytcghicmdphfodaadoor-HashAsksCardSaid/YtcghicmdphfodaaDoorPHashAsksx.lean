/- Written by a program of this session over the translation: functions, their walks, rows. No condition beyond those that each theorem names. -/
import Derived.Test.YtcghicmdphfodaaDoorPHashAsksx0
import Derived.Test.YtcghicmdphfodaaDoorPHashAsksx1
import Derived.Test.YtcghicmdphfodaaDoorPHashAsksx2
import Derived.Test.YtcghicmdphfodaaDoorPHashAsksx3
import Derived.Test.YtcghicmdphfodaaDoorPHashAsksXRef
import Derived.Test.YtcghicmdphfodaaDoorPHashAsksXRoot
import Derived.Test.YtcghicmdphfodaaDoorPHashAsksXSha
namespace Go.Proofs.YtcghicmdphfodaaDoor.PHashAsks
open Go.RowKit Go.Proofs.YtcghicmdphfodaaDoorW.PrintWords Go.Proofs.YtcghicmdphfodaaDoorW.PrintLast Go.Proofs.YtcghicmdphfodaaDoorW.PrintMore
attribute [local go_sem] max2_int min2_int max_two min_two max_three min_three max_four min_four   -- for this text's walks alone
set_option linter.unusedVariables false
set_option linter.unusedSimpArgs false

end Go.Proofs.YtcghicmdphfodaaDoor.PHashAsks
