/- massiflaw03.PlaceBack, as printed, answers true for all numbers of the parameters' types. No further condition. -/
import Derived.Test.YtlbehenaoiddkaaPPlaceBackx
import Derived.Test.YtlbehenaoiddkaaQPlaceBack
namespace Go.Proofs.Ytlbehenaoiddkaa.Pure
open Go.RowKit Go.Proofs.Ytlbehenaoiddkaa.PPlaceBack Go.Proofs.Ytlbehenaoiddkaa.MB Go.Proofs.YtlbehenaoiddkaaW.PrintWords Go.Proofs.YtlbehenaoiddkaaW.PrintLast

theorem back_j1 (b : Int) (k K : Nat) (hK : 70 ≤ K) : massiflaw03_PlaceBack.j1 K b k = some true := by
  obtain ⟨K, rfl⟩ : ∃ m, K = m + 1 := ⟨K - 1, by omega⟩
  simp only [massiflaw03_PlaceBack.j1]
  by_cases h : ∃ n : Nat, b = n ∧ May n k
  · obtain ⟨n, rfl, m⟩ := h
    have hmax := pl_le_max m
    rw [place_Of.yes n k K m (by omega), massiflaw03_may.yes n k m]
    simp only [Option.bind_some]
    rw [place_Block.yes n k K m (by omega)]
    simp
    omega
  · rw [place_Of.no b k K h, massiflaw03_may.no b k h]
    simp

theorem PlaceBack (a0 a1 a2 : Int) (h0 : (Lit.int .u64 a0).wf = true) (_h1 : (Lit.int .i64 a1).wf = true) (h2 : (Lit.int .u64 a2).wf = true) : ∃ k, massiflaw03_PlaceBack.f k a0 a1 a2 = some true := by
  obtain ⟨p, rfl, hp⟩ := wf_u64 h0
  obtain ⟨c, rfl, hc⟩ := wf_u64 h2
  refine ⟨100, ?_⟩
  unfold massiflaw03_PlaceBack.f
  have J := back_j1 a1 c 99 (by omega)
  have J' := back_j1 a1 c 98 (by omega)
  rw [massiflaw03_alive.is 100 (by omega)]
  simp only [Option.bind_some, if_true]
  by_cases hb : p ≤ 2199023255550
  · obtain ⟨h, k, m, rfl⟩ := block_at p hb
    rw [place_Block.yes h k 100 m (by omega), decide_eq_true (show ((pl h k : Nat) : Int) ≤ 2199023255550 from by omega)]
    simp only [Option.bind_some]
    rw [massiflaw03_may.yes h k m]
    simp only [Option.bind_some, if_true, bne_self_eq_false, Bool.false_eq_true, if_false, massiflaw03_PlaceBack.j0]
    rw [place_Of.yes h k 99 m (by omega)]
    simp only [Option.bind_some, if_true]
    exact J
  · rw [place_Block.no p 100 (by omega), decide_eq_false (show ¬ (p : Int) ≤ 2199023255550 from by omega)]
    simp only [Option.bind_some, bne_self_eq_false, Bool.false_eq_true, if_false, massiflaw03_PlaceBack.j0, beq_self_eq_true, Bool.not_true, Bool.or_self]
    exact J

end Go.Proofs.Ytlbehenaoiddkaa.Pure
