/- Arguments that come in: a slice of strings as a list, with its bounds. No condition beyond those that each theorem names. -/
import Derived.SizedLaws
import Derived.SliceStrings
import Derived.ChangeSlices
import Derived.Test.YtcghicmdphfodaaDoorWWords
import Derived.Test.YtcghicmdphfodaaDoorWApart
set_option linter.unusedVariables false
namespace Go.Proofs.YtcghicmdphfodaaDoor.Lift
open Go.ChangeShapes Go.WideShapes Go.RowKit Go.Proofs.YtcghicmdphfodaaDoorW.PrintWords
variable {H : Type} {enc : TypeId × Value → H} {P : Program} {W : World} {base : Nat} {spare : Nat → Bool} {held : Bool} {t e : TypeId} {a : Option Addr} {len cap : Nat} {d : DataW H} {ps : List MemPlace} {ts : List TypeId} {ds : List (DataW H)} {j : Nat}
theorem weights_all (P : Program) (e : TypeId) : ∀ (l : List (DataW H)) (x : DataW H), x ∈ l → ∀ n, n ∈ x.weights P e → n ∈ DataW.weightsAll P e l
  | y :: l, x, hx, n, hn => by
    rw [DataW.weightsAll, List.mem_append]
    rcases List.mem_cons.1 hx with h | h
    · subst h; exact .inl hn
    · exact .inr (weights_all P e l x h n hn)
theorem strs (hsz : (DataW.weightsEach P ts ds).all (· ≤ reachBytes) = true) (ht : ts[j]? = some t) (hd : ds[j]? = some d) (hu : P.underlying t = some (.slice e)) (he : P.underlying e = some .string) (hc : P.cellsOf e = 1) (hB : P.bytesOf e = 16)
    (h : DataW.Trod enc P W base spare held t (.slice a len cap) d ps) :
    ∃ l : List ByteArray, len = l.length ∧ Kd.C Kd.string W a l.length l ∧ l.length ≤ cap ∧ l.length * 16 ≤ 140737488351232 ∧ ∀ s ∈ l, s.size ≤ 140737488351232 := by
  obtain ⟨fuel, hf⟩ := h
  rcases open_strings hu he hc hf with ⟨hcs, hx⟩ | ⟨x, l, c, ss, hcs, _, hl, hm, hz, hx, hcell, _⟩
  · simp [Value.cells] at hcs
    obtain ⟨rfl, rfl, rfl⟩ := hcs
    exact ⟨[], rfl, Kd.C_of_reads (h1 := fun _ => rfl) (d := ByteArray.empty) ⟨rfl, by simp, fun h => absurd h (Nat.lt_irrefl 0)⟩, Nat.le_refl _, by simp, fun s hs => by cases hs⟩
  · simp [Value.cells] at hcs
    obtain ⟨rfl, rfl, rfl⟩ := hcs
    obtain ⟨hx, _⟩ := Prod.mk.inj hx
    subst hx
    have hl2 : len ≤ ss.length := by
      rw [hz]
      split
      · exact hl
      · exact Nat.le_refl _
    have el : (ss.take len).length = len := by rw [List.length_take]; omega
    have z := sized_slice hsz ht hd hu
    rw [hB] at z
    have h1 : (Go.ChangeShapes.strs (H := H) (ss.take len)).length + (Go.ChangeShapes.strs (H := H) (ss.drop len)).length = ss.length := by
      simp [Go.ChangeShapes.strs]
      omega
    rw [h1] at z
    have z2 : len * 16 ≤ 140737488351232 := Nat.le_trans (Nat.mul_le_mul_right _ hl2) z
    refine ⟨ss.take len, el.symm, ?_, by rw [el]; exact hl, by rw [el]; exact z2, fun s hs => ?_⟩
    · refine Kd.C_of_reads (h1 := fun _ => rfl) (d := ByteArray.empty) ⟨rfl, by rw [el]; omega, fun _ => ⟨x, rfl, fun i hi => ?_⟩⟩
      rw [el] at hi
      rw [hcell i (by omega), List.getD_eq_getElem?_getD, List.getD_eq_getElem?_getD, List.getElem?_take_of_lt hi]
    · have hw : s.data.toList.length ∈ DataW.weightsEach P ts ds := by
        refine DataW.weights_mem_each ht hd _ ?_
        simp only [DataW.weights, hu]
        refine List.mem_cons_of_mem _ (List.mem_append_left _ ?_)
        refine weights_all P e _ (.lit (.string s.data.toList)) ?_ _ (by simp [DataW.weights])
        exact List.mem_map.2 ⟨s, hs, rfl⟩
      have := List.all_eq_true.1 hsz _ hw
      simp only [decide_eq_true_eq] at this
      exact this
end Go.Proofs.YtcghicmdphfodaaDoor.Lift
