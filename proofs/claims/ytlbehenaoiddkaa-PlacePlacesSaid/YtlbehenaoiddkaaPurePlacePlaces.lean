/- massiflaw03.PlacePlaces answers true for all numbers of the parameter's type. No further condition. -/
import Derived.Test.YtlbehenaoiddkaaPPlacePlacesx
import Derived.Test.YtlbehenaoiddkaaQPlacePlaces
namespace Go.Proofs.Ytlbehenaoiddkaa.Pure
open Go.RowKit Go.Proofs.Ytlbehenaoiddkaa.PPlacePlaces Go.Proofs.Ytlbehenaoiddkaa.MB Go.Proofs.YtlbehenaoiddkaaW.PrintWords Go.Proofs.YtlbehenaoiddkaaW.PrintLast

theorem PlacePlaces : massiflaw03_PlacePlaces.Pure := by
  intro a0 h0
  obtain ⟨p, rfl, hp⟩ := wf_u64 h0
  refine ⟨68, ?_⟩
  unfold massiflaw03_PlacePlaces.f
  rw [massiflaw03_alive.is 68 (by omega)]
  simp only [Option.bind_some, if_true]
  by_cases hb : p ≤ 2199023255550
  · obtain ⟨h, k, m, rfl⟩ := block_at p hb
    rw [place_Block.yes h k 68 m (by omega), massifref03_Block.yes h k 68 m (by omega), place_Height.yes h k 68 m (by omega), massifref03_Height.yes h k 68 m (by omega)]
    simp only [Option.bind_some, massiflaw03_PlacePlaces.j0]
    by_cases hh : h < 40
    · rw [place_Parent.yes h k 67 m hh (by omega), massifref03_Parent.yes h k 67 m hh (by omega), place_Sibling.yes h k 67 m hh (by omega), massifref03_Sibling.yes h k 67 m hh (by omega)]
      simp
    · have : h = 40 := by have := m.1; omega
      subst this
      obtain rfl := m.top
      rw [place_Parent.top 67 (by omega), massifref03_Parent.top 67 (by omega), place_Sibling.top 67 (by omega), massifref03_Sibling.top 67 (by omega)]
      simp
  · rw [place_Block.no p 68 (by omega), massifref03_Block.no p 68 (by omega), place_Height.no p 68 (by omega), massifref03_Height.no p 68 (by omega)]
    simp only [Option.bind_some, massiflaw03_PlacePlaces.j0]
    rw [place_Parent.no p 67 (by omega), massifref03_Parent.no p 67 (by omega), place_Sibling.no p 67 (by omega), massifref03_Sibling.no p 67 (by omega) (by omega)]
    simp

end Go.Proofs.Ytlbehenaoiddkaa.Pure
