/- massiflaw03.PlacePostorder, as printed, answers true for all numbers of the parameters' types. No further condition. -/
import Derived.Test.YtlbehenaoiddkaaPPlacePostorderx
import Derived.Test.YtlbehenaoiddkaaQPlacePostorder
namespace Go.Proofs.Ytlbehenaoiddkaa.Pure
open Go.RowKit Go.Proofs.Ytlbehenaoiddkaa.PPlacePostorder Go.Proofs.Ytlbehenaoiddkaa.MB Go.Proofs.YtlbehenaoiddkaaW.PrintWords Go.Proofs.YtlbehenaoiddkaaW.PrintLast

theorem bent_is (a : Int) (b : Nat) : ∃ h k : Nat, May h k ∧ massiflaw03_bent.f a b = some ((h : Int), (k : Int)) := by
  obtain ⟨u, hu, hu1⟩ : ∃ u : Nat, IntKind.u64.wrap a = u ∧ u < 2 ^ 64 := ⟨(IntKind.u64.wrap a).toNat, by rw [wrap_u64_is]; omega, by rw [wrap_u64_is]; omega⟩
  have e1 : wrap64 (Int.tmod (u : Int) 41) = ((u % 41 : Nat) : Int) := by
    rw [Int.tmod_eq_emod_of_nonneg (by omega), wrap64_in _ (by omega) (by omega)]; omega
  have hlt : u % 41 < 41 := Nat.mod_lt _ (by omega)
  have hp := two_pow_pos (40 - u % 41)
  refine ⟨u % 41, b % 2 ^ (40 - u % 41), may_of (by omega) (Nat.mod_lt _ hp), ?_⟩
  unfold massiflaw03_bent.f
  rw [hu, e1, wrap_u64_in ((u % 41 : Nat) : Int) (by omega) (by omega), if_pos (by omega), shr40 (u % 41) (by omega), Int.tmod_eq_emod_of_nonneg (by omega)]
  rw [if_neg (by omega)]
  rfl

theorem post_j2 (h k K : Nat) (m : May h k) (hK : 70 ≤ K) : massiflaw03_PlacePostorder.j2 K ((pl h k : Nat) : Int) false h k = some true := by
  obtain ⟨K, rfl⟩ : ∃ m, K = m + 1 := ⟨K - 1, by omega⟩
  simp only [massiflaw03_PlacePostorder.j2, Bool.false_eq_true, if_false]
  by_cases hh : h < 40
  · rw [place_Parent.yes h k K m hh (by omega), place_Sibling.yes h k K m hh (by omega), decide_eq_true (show (h : Int) < 40 from by omega)]
    simp
  · have : h = 40 := by have := m.1; omega
    subst this
    obtain rfl := m.top
    rw [place_Parent.top K (by omega), place_Sibling.top K (by omega)]
    simp

theorem post_j1 (h k K : Nat) (m : May h k) (hK : 72 ≤ K) : massiflaw03_PlacePostorder.j1 K ((pl h k : Nat) : Int) false h k = some true := by
  obtain ⟨K, rfl⟩ : ∃ m, K = m + 1 := ⟨K - 1, by omega⟩
  have hk40 := m.lt
  have hm1 := m.1
  simp only [massiflaw03_PlacePostorder.j1, Bool.false_eq_true, if_false]
  cases h with
  | zero =>
    rw [if_neg (by omega), place_Parent.yes 0 k K m (by omega) (by omega), place_Sibling.yes 0 k K m (by omega) (by omega)]
    simp
  | succ h =>
    have mL := m.left
    have mR := m.right
    have hL := pl_left h k m
    have hR := pl_right h k m
    have hmax := pl_le_max m
    have e1 : wrap64 (((h + 1 : Nat) : Int) - 1) = (h : Int) := by rw [wrap64_in _ (by omega) (by omega)]; omega
    have e2 : IntKind.u64.wrap (2 * (k : Int)) = ((2 * k : Nat) : Int) := by rw [wrap_u64_in _ (by omega) (by omega)]; omega
    have e3 : IntKind.u64.wrap (((2 * k : Nat) : Int) + 1) = ((2 * k + 1 : Nat) : Int) := by rw [wrap_u64_in _ (by omega) (by omega)]; omega
    have e4 : IntKind.u64.wrap (((pl (h + 1) k : Nat) : Int) - 1) = ((pl h (2 * k + 1) : Nat) : Int) := by rw [wrap_u64_in _ (by omega) (by omega)]; omega
    have hsh := shlc 1 (h + 1) (by omega) (by have := m.pow; omega)
    rw [Nat.one_mul] at hsh
    have e5 : IntKind.u64.wrap (((pl (h + 1) k : Nat) : Int) - ((2 ^ (h + 1) : Nat) : Int)) = ((pl h (2 * k) : Nat) : Int) := by
      generalize 2 ^ (h + 1) = q at *
      rw [wrap_u64_in _ (by omega) (by omega)]; omega
    have s1 : sib (2 * k) = 2 * k + 1 := by unfold sib; rw [if_pos (by omega)]
    have s2 : sib (2 * k + 1) = 2 * k := by unfold sib; rw [if_neg (by omega)]; omega
    have p1 := place_Parent.yes h (2 * k) K mL (by omega) (by omega)
    have p2 := place_Parent.yes h (2 * k + 1) K mR (by omega) (by omega)
    have b1 := place_Sibling.yes h (2 * k) K mL (by omega) (by omega)
    have b2 := place_Sibling.yes h (2 * k + 1) K mR (by omega) (by omega)
    rw [show 2 * k / 2 = k from by omega] at p1
    rw [show (2 * k + 1) / 2 = k from by omega] at p2
    rw [s1] at b1
    rw [s2] at b2
    rw [if_pos (by omega), e1, e2, e3, place_Of.yes h (2 * k) K mL (by omega), place_Of.yes h (2 * k + 1) K mR (by omega)]
    simp only [Option.bind_some]
    rw [p1, p2, b1, b2]
    simp only [Option.bind_some, if_true]
    rw [e4, wrap_u64_in ((h + 1 : Nat) : Int) (by omega) (by omega), show shl .u64 1 ((h + 1 : Nat) : Int) = ((2 ^ (h + 1) : Nat) : Int) from hsh, e5]
    have hge : (0 : Int) ≤ ((h + 1 : Nat) : Int) := by omega
    simp only [if_true, hge, bne_self_eq_false]
    exact post_j2 (h + 1) k K m (by omega)

theorem PlacePostorder (a1 a2 : Int) (_h1 : (Lit.int .i64 a1).wf = true) (h2 : (Lit.int .u64 a2).wf = true) : ∃ k, massiflaw03_PlacePostorder.f k a1 a2 = some true := by
  obtain ⟨c, rfl, hc⟩ := wf_u64 h2
  obtain ⟨h, k, m, hb⟩ := bent_is a1 c
  refine ⟨100, ?_⟩
  unfold massiflaw03_PlacePostorder.f
  have J := post_j1 h k 99 m (by omega)
  have hmax := pl_le_max m
  have hfirst := pl_first h k m
  have hm1 := m.1
  have hm2 := m.2
  have hpw := m.pow
  have hpp := two_pow_pos h
  have m0 : May 0 (k * 2 ^ h) := ⟨by omega, by omega⟩
  have hs2 : shl .u64 2 (h : Int) = ((2 * 2 ^ h : Nat) : Int) := shlc 2 h (by omega) (by omega)
  have hsk : shl .u64 (k : Int) (h : Int) = ((k * 2 ^ h : Nat) : Int) := shlc k h (by omega) (by omega)
  rw [massiflaw03_alive.is 100 (by omega), hb]
  simp only [Option.bind_some, if_true]
  rw [place_Of.yes h k 100 m (by omega)]
  simp only [Option.bind_some]
  rw [place_Height.yes h k 100 m (by omega)]
  simp only [Option.bind_some, if_true, bne_self_eq_false]
  simp only [massiflaw03_PlacePostorder.j0, Bool.false_eq_true, if_false]
  have e1 : IntKind.u64.wrap (((pl h k : Nat) : Int) - IntKind.u64.wrap (((2 * 2 ^ h : Nat) : Int) - 2)) = ((pl 0 (k * 2 ^ h) : Nat) : Int) := by
    generalize 2 ^ h = q at *
    rw [wrap_u64_in (((2 * q : Nat) : Int) - 2) (by omega) (by omega), wrap_u64_in _ (by omega) (by omega)]; omega
  rw [wrap_u64_in (h : Int) (by omega) (by omega), if_pos (by omega), hs2, hsk, e1, place_Block.yes 0 (k * 2 ^ h) 99 m0 (by omega), place_Leaf.is (k * 2 ^ h) 99 (by omega) (by omega)]
  simp only [Option.bind_some, if_true, beq_self_eq_true, Bool.not_true, bne_self_eq_false]
  exact J

end Go.Proofs.Ytlbehenaoiddkaa.Pure
