/- massiftop.ApiLimits answers true. No condition. -/
import Derived.Test.YtbfmdcccnneanaaPApiLimitsx1
namespace Go.Proofs.Ytbfmdcccnneanaa.Pure
open Go.RowKit Go.Proofs.Ytbfmdcccnneanaa.PApiLimits Go.Proofs.YtbfmdcccnneanaaW.PrintWords Go.Proofs.YtbfmdcccnneanaaW.PrintLast

theorem ApiLimits : massiftop_ApiLimits.Pure := by
  unfold massiftop_ApiLimits.Pure massiftop_ApiLimits.f
  simp

end Go.Proofs.Ytbfmdcccnneanaa.Pure
