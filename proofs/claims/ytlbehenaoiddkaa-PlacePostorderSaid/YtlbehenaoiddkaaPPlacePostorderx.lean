/- Written by a program of this session over the translation: functions, their walks, rows. No condition beyond those that each theorem names. -/
import Derived.Test.YtlbehenaoiddkaaPPlacePostorderx0
import Derived.Test.YtlbehenaoiddkaaPPlacePostorderx1
import Derived.Test.YtlbehenaoiddkaaPPlacePostorderx2
import Derived.Test.YtlbehenaoiddkaaPPlacePostorderx3
import Derived.Test.YtlbehenaoiddkaaPPlacePostorderx4
import Derived.Test.YtlbehenaoiddkaaPPlacePostorderx5
namespace Go.Proofs.Ytlbehenaoiddkaa.PPlacePostorder
open Go.RowKit Go.Proofs.YtlbehenaoiddkaaW.PrintWords Go.Proofs.YtlbehenaoiddkaaW.PrintLast Go.Proofs.YtlbehenaoiddkaaW.PrintMore
attribute [local go_sem] max2_int min2_int max_two min_two max_three min_three max_four min_four   -- for this text's walks alone
set_option linter.unusedVariables false
set_option linter.unusedSimpArgs false

end Go.Proofs.Ytlbehenaoiddkaa.PPlacePostorder
