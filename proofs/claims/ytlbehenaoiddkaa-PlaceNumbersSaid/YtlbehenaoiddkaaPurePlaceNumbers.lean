/- massiflaw03.PlaceNumbers, as printed, answers true for all numbers of the parameters' types. No further condition. -/
import Derived.Test.YtlbehenaoiddkaaPPlaceNumbersx
import Derived.Test.YtlbehenaoiddkaaQPlaceNumbers
namespace Go.Proofs.Ytlbehenaoiddkaa.Pure
open Go.RowKit Go.Proofs.Ytlbehenaoiddkaa.PPlaceNumbers Go.Proofs.Ytlbehenaoiddkaa.MB Go.Proofs.YtlbehenaoiddkaaW.PrintWords Go.Proofs.YtlbehenaoiddkaaW.PrintLast

theorem numbers_of (b : Int) (c K : Nat) (hK : 70 ≤ K) : place_Of.f K b c = massifref03_Of.f K b c := by
  by_cases h : ∃ n : Nat, b = n ∧ May n c
  · obtain ⟨n, rfl, m⟩ := h
    rw [place_Of.yes n c K m (by omega), massifref03_Of.yes n c K m (by omega)]
  · rw [place_Of.no b c K h, massifref03_Of.no b c K h]
theorem of_some (b : Int) (c K : Nat) (hK : 70 ≤ K) : ∃ r, massifref03_Of.f K b c = some r := by
  by_cases h : ∃ n : Nat, b = n ∧ May n c
  · obtain ⟨n, rfl, m⟩ := h
    exact ⟨_, massifref03_Of.yes n c K m (by omega)⟩
  · exact ⟨_, massifref03_Of.no b c K h⟩

theorem PlaceNumbers (a0 a1 a2 : Int) (h0 : (Lit.int .u64 a0).wf = true) (_h1 : (Lit.int .i64 a1).wf = true) (h2 : (Lit.int .u64 a2).wf = true) : ∃ k, massiflaw03_PlaceNumbers.f k a0 a1 a2 = some true := by
  obtain ⟨n, rfl, hn⟩ := wf_u64 h0
  obtain ⟨c, rfl, hc⟩ := wf_u64 h2
  refine ⟨200, ?_⟩
  obtain ⟨⟨r1, r2⟩, hr⟩ := of_some a1 c 200 (by omega)
  unfold massiflaw03_PlaceNumbers.f
  rw [massiflaw03_alive.is 200 (by omega), numbers_of a1 c 200 (by omega), hr]
  simp only [Option.bind_some, if_true]
  by_cases hb : n ≤ 2 ^ 40
  · have hlen : (ints (pkS n 41)).length ≤ 41 := by rw [ints_length]; exact pkS_le n 41
    have hs := massiflaw03_same.self (ints (pkS n 41)) 200 (by omega) (by omega)
    rw [place_Nodes.is n 200 hb (by omega), massifref03_Nodes.is n 200 hb (by omega), place_Peaks.is n 200 hb (by omega), massifref03_Peaks.is n 200 hb (by omega)]
    by_cases hl : n < 2 ^ 40
    · rw [place_Leaf.is n 200 hl (by omega), massifref03_Leaf.is n 200 hl (by omega)]
      simp [hs]
    · rw [place_Leaf.no n 200 (by omega), massifref03_Leaf.no n 200 (by omega)]
      simp [hs]
  · have hs := massiflaw03_same.self [] 200 (by simp) (by simp)
    rw [place_Nodes.no n 200 (by omega), massifref03_Nodes.no n 200 (by omega), place_Leaf.no n 200 (by omega), massifref03_Leaf.no n 200 (by omega), place_Peaks.no n 200 (by omega), massifref03_Peaks.no n 200 (by omega) (by omega)]
    simp [hs]

end Go.Proofs.Ytlbehenaoiddkaa.Pure
