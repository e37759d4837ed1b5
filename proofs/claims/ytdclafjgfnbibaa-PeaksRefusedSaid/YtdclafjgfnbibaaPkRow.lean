/- massiflaw09.PeaksRefused: the walk, for the row. No condition beyond those that each theorem names. -/
import Derived.Test.YtdclafjgfnbibaaPkRef
namespace Go.Proofs.Ytdclafjgfnbibaa.Pk
open Go.RowKit Go.Proofs.Ytdclafjgfnbibaa.MB Go.Proofs.YtdclafjgfnbibaaW.PrintWords Go.Proofs.Ytdclafjgfnbibaa.Ob
theorem refused_row (w : World) (k a1 : Int) (f1 : (Lit.int .u64 a1).wf = true) (A2 : Option Addr) (c2 : Nat) (l2 : List Op) (h2 : Ops w A2 l2) :
    Calls Try.prog 5 #[.int .i64 k, .int .u64 a1, .slice A2 l2.length c2] w fun e w' => e = .returned (.bool true) ∧ Below w.heap.size w w' := by
  obtain ⟨n0, rfl, h⟩ := MB.wf_u64 f1
  exact refused_calls w k n0 A2 c2 l2 h h2
end Go.Proofs.Ytdclafjgfnbibaa.Pk
