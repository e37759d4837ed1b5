/- Written by a program of this session over the translation: functions, their walks, rows. No condition beyond those that each theorem names. -/
import Derived.Test.YtcghicmdphfodaaDoorPHashBeginsx0
import Derived.Test.YtcghicmdphfodaaDoorPHashBeginsx1
import Derived.Test.YtcghicmdphfodaaDoorPHashBeginsx2
import Derived.Test.YtcghicmdphfodaaDoorPHashBeginsx3
import Derived.Test.YtcghicmdphfodaaDoorPHashBeginsXRef
import Derived.Test.YtcghicmdphfodaaDoorPHashBeginsXRoot
import Derived.Test.YtcghicmdphfodaaDoorPHashBeginsXSha
namespace Go.Proofs.YtcghicmdphfodaaDoor.PHashBegins
open Go.RowKit Go.Proofs.YtcghicmdphfodaaDoorW.PrintWords Go.Proofs.YtcghicmdphfodaaDoorW.PrintLast Go.Proofs.YtcghicmdphfodaaDoorW.PrintMore
attribute [local go_sem] max2_int min2_int max_two min_two max_three min_three max_four min_four   -- for this text's walks alone
set_option linter.unusedVariables false
set_option linter.unusedSimpArgs false

end Go.Proofs.YtcghicmdphfodaaDoor.PHashBegins
