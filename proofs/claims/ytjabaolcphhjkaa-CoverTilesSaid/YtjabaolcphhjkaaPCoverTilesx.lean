/- Written by a program of this session over the translation: functions, their walks, rows. No condition beyond those that each theorem names. -/
import Derived.Test.YtjabaolcphhjkaaPCoverTilesx0
import Derived.Test.YtjabaolcphhjkaaPCoverTilesx1
import Derived.Test.YtjabaolcphhjkaaPCoverTilesx2
import Derived.Test.YtjabaolcphhjkaaPCoverTilesx3
import Derived.Test.YtjabaolcphhjkaaPCoverTilesx4
import Derived.Test.YtjabaolcphhjkaaPCoverTilesx5
import Derived.Test.YtjabaolcphhjkaaPCoverTilesXCount
import Derived.Test.YtjabaolcphhjkaaPCoverTilesXRange
import Derived.Test.YtjabaolcphhjkaaPCoverTilesXRest
namespace Go.Proofs.Ytjabaolcphhjkaa.PCoverTiles
open Go.RowKit Go.Proofs.YtjabaolcphhjkaaW.PrintWords Go.Proofs.YtjabaolcphhjkaaW.PrintLast Go.Proofs.YtjabaolcphhjkaaW.PrintMore
attribute [local go_sem] max2_int min2_int max_two min_two max_three min_three max_four min_four   -- for this text's walks alone
set_option linter.unusedVariables false
set_option linter.unusedSimpArgs false

end Go.Proofs.Ytjabaolcphhjkaa.PCoverTiles
