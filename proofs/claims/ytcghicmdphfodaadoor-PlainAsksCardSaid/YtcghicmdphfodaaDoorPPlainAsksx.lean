/- Written by a program of this session over the translation: functions, their walks, rows. No condition beyond those that each theorem names. -/
import Derived.Test.YtcghicmdphfodaaDoorPPlainAsksx0
import Derived.Test.YtcghicmdphfodaaDoorPPlainAsksx1
import Derived.Test.YtcghicmdphfodaaDoorPPlainAsksx2
import Derived.Test.YtcghicmdphfodaaDoorPPlainAsksx3
import Derived.Test.YtcghicmdphfodaaDoorPPlainAsksx4
import Derived.Test.YtcghicmdphfodaaDoorPPlainAsksx5
import Derived.Test.YtcghicmdphfodaaDoorPPlainAsksx6
import Derived.Test.YtcghicmdphfodaaDoorPPlainAsksx7
import Derived.Test.YtcghicmdphfodaaDoorPPlainAsksx8
import Derived.Test.YtcghicmdphfodaaDoorPPlainAsksx9
import Derived.Test.YtcghicmdphfodaaDoorPPlainAsksXPk8
import Derived.Test.YtcghicmdphfodaaDoorPPlainAsksXRef
import Derived.Test.YtcghicmdphfodaaDoorPPlainAsksXRoot
import Derived.Test.YtcghicmdphfodaaDoorPPlainAsksXSha
namespace Go.Proofs.YtcghicmdphfodaaDoor.PPlainAsks
open Go.RowKit Go.Proofs.YtcghicmdphfodaaDoorW.PrintWords Go.Proofs.YtcghicmdphfodaaDoorW.PrintLast Go.Proofs.YtcghicmdphfodaaDoorW.PrintMore
attribute [local go_sem] max2_int min2_int max_two min_two max_three min_three max_four min_four   -- for this text's walks alone
set_option linter.unusedVariables false
set_option linter.unusedSimpArgs false

end Go.Proofs.YtcghicmdphfodaaDoor.PPlainAsks
