/- Arguments that come in under a bound of bulk: a slice of strings as a list, with the sum of its lengths. No condition beyond those that each theorem names. -/
import Derived.Test.YtcghicmdphfodaaDoorLift
import Derived.Test.YtcghicmdphfodaaDoorRows
set_option linter.unusedVariables false
namespace Go.Proofs.YtcghicmdphfodaaDoor.Lift
open Go.ChangeShapes Go.WideShapes Go.RowKit Go.Proofs.YtcghicmdphfodaaDoorW.PrintWords
variable {H : Type} {enc : TypeId × Value → H} {P : Program} {W : World} {base : Nat} {spare : Nat → Bool} {held : Bool} {t e : TypeId} {a : Option Addr} {len cap : Nat} {d : DataW H} {ps : List MemPlace}
theorem bulk_strs : ∀ l : List ByteArray, Rows.uptoBulkAll (Go.ChangeShapes.strs (H := H) l) = (l.map ByteArray.size).sum + l.length
  | [] => by simp [Go.ChangeShapes.strs, Rows.uptoBulkAll]
  | s :: l => by
    have ih := bulk_strs l
    have e : Go.ChangeShapes.strs (H := H) (s :: l) = .lit (.string s.data.toList) :: Go.ChangeShapes.strs (H := H) l := rfl
    rw [e, Rows.uptoBulkAll, ih, List.map_cons, List.sum_cons, List.length_cons]
    have e2 : s.data.toList.length = s.size := by rw [Array.length_toList]; rfl
    simp only [Rows.uptoBulk]
    omega
theorem bulk_part {l : List (DataW H)} (hk : Rows.uptoSmall H l = true) : Rows.uptoBulkAll l ≤ 1048576 := by
  have h := of_decide_eq_true hk
  exact h
theorem strsB (hu : P.underlying t = some (.slice e)) (he : P.underlying e = some .string) (hc : P.cellsOf e = 1) (hk : Rows.uptoBulk d ≤ 1048576) (h : DataW.Trod enc P W base spare held t (.slice a len cap) d ps) :
    ∃ l : List ByteArray, len = l.length ∧ Kd.C Kd.string W a l.length l ∧ l.length ≤ cap ∧ (l.map ByteArray.size).sum + l.length ≤ Rows.uptoBulk d := by
  obtain ⟨fuel, hf⟩ := h
  rcases open_strings hu he hc hf with ⟨hcs, hx⟩ | ⟨x, l, c, ss, hcs, _, hl, hm, hz, hx, hcell, _⟩
  · simp [Value.cells] at hcs
    obtain ⟨rfl, rfl, rfl⟩ := hcs
    exact ⟨[], rfl, Kd.C_of_reads (h1 := fun _ => rfl) (d := ByteArray.empty) ⟨rfl, by simp, fun h => absurd h (Nat.lt_irrefl 0)⟩, Nat.le_refl _, by simp⟩
  · simp [Value.cells] at hcs
    obtain ⟨rfl, rfl, rfl⟩ := hcs
    obtain ⟨hx, _⟩ := Prod.mk.inj hx
    subst hx
    have hl2 : len ≤ ss.length := by
      rw [hz]
      split
      · exact hl
      · exact Nat.le_refl _
    have el : (ss.take len).length = len := by rw [List.length_take]; omega
    have h1 := bulk_strs (H := H) (ss.take len)
    rw [el] at h1
    simp only [Rows.uptoBulk] at hk
    refine ⟨ss.take len, el.symm, ?_, by rw [el]; exact hl, ?_⟩
    · refine Kd.C_of_reads (h1 := fun _ => rfl) (d := ByteArray.empty) ⟨rfl, by rw [el]; omega, fun _ => ⟨x, rfl, fun i hi => ?_⟩⟩
      rw [el] at hi
      rw [hcell i (by omega), List.getD_eq_getElem?_getD, List.getD_eq_getElem?_getD, List.getElem?_take_of_lt hi]
    · rw [el]
      simp only [Rows.uptoBulk]
      omega
end Go.Proofs.YtcghicmdphfodaaDoor.Lift
