/- massiflaw03: what alive, same and place.Peaks answer. No condition beyond those that each theorem names. -/
import Derived.Test.YtlbehenaoiddkaaPPlaceNumbersx
import Derived.Test.YtlbehenaoiddkaaQPlaceNumbers
import Derived.Test.YtlbehenaoiddkaaAp
set_option linter.unusedVariables false
namespace Go.Proofs.Ytlbehenaoiddkaa.Pm
open Go.RowKit Go.Proofs.Ytlbehenaoiddkaa.MB Go.Proofs.YtlbehenaoiddkaaW.PrintWords Go.Proofs.YtlbehenaoiddkaaW.PrintLast Go.Proofs.YtlbehenaoiddkaaW.PrintMore Go.Proofs.Ytlbehenaoiddkaa.PPlaceNumbers
def peaksL (n : Nat) : List Int := if n ≤ 2 ^ 40 then ints (pkS n 41) else []
theorem peaksL_le (n : Nat) : (peaksL n).length ≤ 41 := by
  unfold peaksL; split
  · rw [ints_length]; exact pkS_le n 41
  · simp
theorem alive_ok (w : World) : Calls Try.prog 11 #[] w fun e w' => e = .returned (.bool true) ∧ Below w.heap.size w w' := massiflaw03_alive.calls 65 true w (massiflaw03_alive.is 65 (Nat.le_refl _))
theorem peaks_ok (w : World) (n : Nat) : Calls Try.prog 19 #[.int .u64 (n : Int)] w fun e w' => ∃ v : Value, e = .returned v ∧ Kd.R (Kd.int .u64) 22 w' w.heap.size (fun _ => True) v (peaksL n) ∧ Below w.heap.size w w' := by
  refine place_Peaks.calls 42 n (peaksL n) w ?_
  unfold peaksL; split
  · exact place_Peaks.is n 42 (by omega) (Nat.le_refl _)
  · exact place_Peaks.no n 42 (by omega)
theorem same_ok (w : World) (l : List Int) (hl : l.length ≤ 45) (A0 A1 : Option Addr) (c0 c1 : Nat) (h0 : Kd.C (Kd.int .u64) w A0 l.length l) (hc0 : l.length ≤ c0) (h1 : Kd.C (Kd.int .u64) w A1 l.length l) (hc1 : l.length ≤ c1) :
    Calls Try.prog 18 #[.slice A0 l.length c0, .slice A1 l.length c1] w fun e w' => e = .returned (.bool true) ∧ Below w.heap.size w w' :=
  (massiflaw03_same.calls 50 A0 c0 l A1 c1 l true w h0 hc0 h1 hc1 (massiflaw03_same.self l 50 (by omega) (by omega))).mono fun e w' h => ⟨h.1, h.2.below⟩
end Go.Proofs.Ytlbehenaoiddkaa.Pm
