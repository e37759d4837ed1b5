/- Arguments that come in: a slice of whole numbers as a list. No condition beyond those that each theorem names. -/
import Derived.ChangeSlices
import Derived.Test.YtkefjoljokfieaaWWords
set_option linter.unusedVariables false
namespace Go.Proofs.Ytkefjoljokfieaa.Lift
open Go.ChangeShapes Go.WideShapes Go.RowKit Go.Proofs.YtkefjoljokfieaaW.PrintWords
theorem ints {H : Type} {enc : TypeId × Value → H} {P : Program} {W : World} {base : Nat} {spare : Nat → Bool} {held : Bool} {t e : TypeId} {k : IntKind} {a : Option Addr} {len cap : Nat} {d : DataW H} {ps : List MemPlace}
    (hu : P.underlying t = some (.slice e)) (he : P.underlying e = some (.int k)) (hc : P.cellsOf e = 1) (h : DataW.Trod enc P W base spare held t (.slice a len cap) d ps) :
    ∃ l : List Int, len = l.length ∧ Kd.C (Kd.int k) W a l.length l ∧ l.length ≤ cap ∧ ∀ n ∈ l, (Lit.int k n).wf = true := by
  obtain ⟨fuel, hf⟩ := h
  rcases open_ints hu he hc hf with ⟨hcs, hx⟩ | ⟨x, l, c, zs, hcs, _, hl, hm, hz, hx, hcell, hwf⟩
  · simp [Value.cells] at hcs
    obtain ⟨rfl, rfl, rfl⟩ := hcs
    exact ⟨[], rfl, Kd.C_of_reads (h1 := fun _ => rfl) (d := 0) ⟨rfl, by simp, fun h => absurd h (Nat.lt_irrefl 0)⟩, Nat.le_refl _, fun s hs => by cases hs⟩
  · simp [Value.cells] at hcs
    obtain ⟨rfl, rfl, rfl⟩ := hcs
    have hl2 : len ≤ zs.length := by
      rw [hz]
      split
      · exact hl
      · exact Nat.le_refl _
    have el : (zs.take len).length = len := by rw [List.length_take]; omega
    simp only [maxLen] at hm
    refine ⟨zs.take len, el.symm, ?_, by rw [el]; exact hl, fun n hn => hwf n (List.mem_of_mem_take hn)⟩
    refine Kd.C_of_reads (h1 := fun _ => rfl) (d := 0) ⟨rfl, by rw [el]; omega, fun _ => ⟨x, rfl, fun i hi => ?_⟩⟩
    rw [el] at hi
    rw [hcell i (by omega), List.getD_eq_getElem?_getD, List.getD_eq_getElem?_getD, List.getElem?_take_of_lt hi]
end Go.Proofs.Ytkefjoljokfieaa.Lift
