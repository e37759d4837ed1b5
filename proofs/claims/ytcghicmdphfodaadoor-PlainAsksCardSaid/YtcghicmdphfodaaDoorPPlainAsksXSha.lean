/- The contract of sha.Of in the print's form: of any parts the sum of the text that they make. No condition beyond those that each theorem names. -/
import Derived.Test.YtcghicmdphfodaaDoorSha3
import Derived.Test.YtcghicmdphfodaaDoorPPlainAsksx0
namespace Go.Proofs.YtcghicmdphfodaaDoor.PPlainAsks
open Go.RowKit Go.Proofs.YtcghicmdphfodaaDoorW.PrintWords Go.Proofs.YtcghicmdphfodaaDoorW.PrintLast Go.Proofs.YtcghicmdphfodaaDoorW.PrintMore
/-- What sha.Of comes to. -/
def sha_Of.f (l0 : List ByteArray) : Option ByteArray :=
  if l0.all (fun s => decide (s.size ≤ 9223372036854775807)) = true then some (Sha.sha (l0.flatMap Sha.bI)) else none
theorem sha_Of.calls (A0 : Option Addr) (c0 : Nat) (l0 : List ByteArray) (r : ByteArray) (w : World) (hr0 : Kd.C Kd.string w A0 l0.length l0) (hc0 : l0.length ≤ c0) (h : sha_Of.f l0 = some r) :
    Calls Tryd.prog 11 #[.slice A0 l0.length c0] w fun e w' => e = .returned (.string r) ∧ Below w.heap.size w w' := by
  unfold sha_Of.f at h
  by_cases c : l0.all (fun s => decide (s.size ≤ 9223372036854775807)) = true
  · rw [if_pos c] at h
    rw [← Option.some.inj h]
    exact Sha.of_calls A0 c0 l0 w hr0 hc0 (fun s hs => by have := List.all_eq_true.1 c s hs; simpa using this)
  · rw [if_neg c] at h; cases h
end Go.Proofs.YtcghicmdphfodaaDoor.PPlainAsks
