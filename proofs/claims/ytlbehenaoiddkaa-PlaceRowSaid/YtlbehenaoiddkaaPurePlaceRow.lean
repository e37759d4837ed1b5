/- massiflaw03.PlaceRow answers true for all numbers of the parameter's type. No further condition. -/
import Derived.Test.YtlbehenaoiddkaaPPlaceRowx
import Derived.Test.YtlbehenaoiddkaaQPlaceRow
namespace Go.Proofs.Ytlbehenaoiddkaa.Pure
open Go.RowKit Go.Proofs.Ytlbehenaoiddkaa.PPlaceRow Go.Proofs.Ytlbehenaoiddkaa.MB Go.Proofs.YtlbehenaoiddkaaW.PrintWords Go.Proofs.YtlbehenaoiddkaaW.PrintLast

theorem row_l1 (M i : Nat) (hi : i < 260) (K0 : Nat) (cont : ∀ k, K0 ≤ k → massiflaw03_PlaceRow.l0 k M ((2 * (i + 1) - ones (i + 1) : Nat) : Int) (ints (pkS (i + 1) 41)) ((i + 1 : Nat) : Int) = some true) :
    ∀ (d h k : Nat), h + d = 9 → i % 2 ^ h = 2 ^ h - 1 → May h (i / 2 ^ h) → pl h (i / 2 ^ h) = pl 0 i + h → K0 + 100 + 2 * d ≤ k →
      massiflaw03_PlaceRow.l1 k M ((pl 0 i + h : Nat) : Int) (ints (pkT i h)) i h ((i / 2 ^ h : Nat) : Int) = some true := by
  intro d
  induction d with
  | zero =>
    intro h k hd hm
    have : h = 9 := by omega
    subst this
    omega
  | succ d ih =>
    intro h k hd hm m hp hk
    obtain ⟨k, rfl⟩ : ∃ m, k = m + 1 := ⟨k - 1, by omega⟩
    obtain ⟨k, rfl⟩ : ∃ m, k = m + 1 := ⟨k - 1, by omega⟩
    have hk2 : K0 + 100 + 2 * d ≤ k := by omega
    have hd2 : h + 1 + d = 9 := by omega
    have hmax := pl_le_max m
    have hlen := pkT_le i h (by omega)
    rw [massiflaw03_PlaceRow.l1, ← hp, place_Block.yes h _ _ m (by omega), place_Of.yes h _ _ m (by omega)]
    simp only [Option.bind_some, if_true, beq_self_eq_true, Bool.not_true, Bool.or_self, Bool.false_eq_true, if_false, bne_self_eq_false]
    rw [massiflaw03_PlaceRow.j2]
    simp only [Bool.false_eq_true, if_false]
    have htm : Int.tmod ((i / 2 ^ h : Nat) : Int) 2 = ((bit i h : Nat) : Int) := by
      rw [Int.tmod_eq_emod_of_nonneg (Int.natCast_nonneg _)]; rfl
    have hb := bit_lt i h
    have hms := mod_succ i h
    have hpp := two_pow_pos h
    have ep : 2 ^ (h + 1) = 2 * 2 ^ h := by rw [Nat.pow_succ, Nat.mul_comm]
    have e1 : i / 2 ^ (h + 1) = i / 2 ^ h / 2 := by rw [Nat.pow_succ, Nat.div_div_eq_div_mul]
    rw [htm, ints_length]
    by_cases e : bit i h = 1
    · have hodd : i / 2 ^ h % 2 = 1 := e
      have m2 : May (h + 1) (i / 2 ^ h / 2) := m.up (by omega)
      have hr := pl_right h (i / 2 ^ h / 2) m2
      rw [show 2 * (i / 2 ^ h / 2) + 1 = i / 2 ^ h from by omega] at hr
      have hpk := pkT_one i h (by omega) e
      have hpl1 : (pkT i h).length = (pkT i (h + 1)).length + 1 := by rw [hpk, List.length_append]; rfl
      have e2 : IntKind.u64.wrap (((pl h (i / 2 ^ h) : Nat) : Int) + 1) = ((pl 0 i + (h + 1) : Nat) : Int) := by rw [wrap_u64_in _ (by omega) (by omega)]; omega
      have e3 : wrap64 (((pkT i h).length : Int) - 1) = (((pkT i (h + 1)).length : Nat) : Int) := by rw [wrap64_in _ (by omega) (by omega)]; omega
      have e4 : (ints (pkT i h)).take (((pkT i (h + 1)).length : Nat) : Int).toNat = ints (pkT i (h + 1)) := by
        rw [Int.toNat_natCast, hpk, ints_append, ← ints_length (pkT i (h + 1)), List.take_left]
      have e5 : IntKind.u64.wrap (Int.tdiv ((i / 2 ^ h : Nat) : Int) 2) = ((i / 2 ^ (h + 1) : Nat) : Int) := by
        rw [e1]
        have : i / 2 ^ h ≤ i := Nat.div_le_self _ _
        generalize i / 2 ^ h = q at *
        rw [Int.tdiv_eq_ediv_of_nonneg (by omega), wrap_u64_in _ (by omega) (by omega)]; omega
      have e6 : wrap64 ((h : Int) + 1) = ((h + 1 : Nat) : Int) := by rw [wrap64_in _ (by omega) (by omega)]; omega
      rw [if_neg (by omega), e3, if_pos (by omega), if_pos (by omega), e2, e4, e5, e6]
      refine ih (h + 1) k hd2 ?_ ?_ ?_ hk2
      · rw [hms, hm, e, ep]; omega
      · rw [e1]; exact m2
      · rw [e1]; omega
    · have e0 : bit i h = 0 := by omega
      have heven : i / 2 ^ h % 2 = 0 := e0
      have hdm := Nat.div_add_mod i (2 ^ h)
      have hi1 : i + 1 = 2 ^ h * (i / 2 ^ h + 1) := by rw [Nat.mul_add, Nat.mul_one]; omega
      have hq1 : (i + 1) / 2 ^ h = i / 2 ^ h + 1 := by
        have h2 := Nat.mul_div_cancel_left (i / 2 ^ h + 1) hpp
        rw [← hi1] at h2; exact h2
      have hr1 : (i + 1) % 2 ^ h = 0 := by
        have h2 := Nat.mul_mod_right (2 ^ h) (i / 2 ^ h + 1)
        rw [← hi1] at h2; exact h2
      have hb1 : bit (i + 1) h = 1 := by
        unfold bit; rw [hq1]; omega
      have hup : (i + 1) / 2 ^ (h + 1) = i / 2 ^ (h + 1) := by
        rw [Nat.pow_succ, ← Nat.div_div_eq_div_mul, ← Nat.div_div_eq_div_mul, hq1]; omega
      have hpk : pkS (i + 1) 41 = pkT i h ++ [pl h (i / 2 ^ h)] := by
        rw [pkS_pkT (i + 1) h (by omega), pkS_none _ _ hr1, List.append_nil, pkT_one (i + 1) h (by omega) hb1, pkT_congr (i + 1) i (h + 1) hup, pkT_no i h (by omega) e0, hq1, Nat.add_sub_cancel]
      have htr : tr (i + 1) = h := tr_eq (by omega) hr1 hb1
      have hop : ones i + 1 = ones (i + 1) + tr (i + 1) := ones_pred 64 (i + 1) (by omega) (by omega)
      have ho := ones_le_self i
      have ho1 := ones_le_self (i + 1)
      have hpl0 := pl_leaf i
      have e2 : IntKind.u64.wrap (((pl h (i / 2 ^ h) : Nat) : Int) + 1) = ((2 * (i + 1) - ones (i + 1) : Nat) : Int) := by rw [wrap_u64_in _ (by omega) (by omega)]; omega
      have e3 : IntKind.u64.wrap (((2 * (i + 1) - ones (i + 1) : Nat) : Int) - 1) = ((pl h (i / 2 ^ h) : Nat) : Int) := by rw [wrap_u64_in _ (by omega) (by omega)]; omega
      have e4 : IntKind.u64.wrap ((i : Int) + 1) = ((i + 1 : Nat) : Int) := by rw [wrap_u64_in _ (by omega) (by omega)]; omega
      have e5 : ints (pkT i h) ++ [((pl h (i / 2 ^ h) : Nat) : Int)] = ints (pkS (i + 1) 41) := by rw [hpk, ints_append]; rfl
      have hlen2 : (ints (pkS (i + 1) 41)).length ≤ 41 := by rw [ints_length]; exact pkS_le _ _
      rw [if_pos (by omega), if_pos (by omega), e2, e3, e4, e5, place_Nodes.is (i + 1) k (by omega) (by omega)]
      simp only [Option.bind_some, if_true]
      rw [place_Peaks.is (i + 1) k (by omega) (by omega)]
      simp only [Option.bind_some]
      rw [massiflaw03_same.self _ k (by omega) (by omega)]
      simp only [Option.bind_some, if_true]
      exact cont k (by omega)

theorem row_l0 (M : Nat) (hM : M ≤ 260) : ∀ (d i k : Nat), i + d = M → 200 * d + 1 ≤ k → massiflaw03_PlaceRow.l0 k M ((2 * i - ones i : Nat) : Int) (ints (pkS i 41)) i = some true := by
  intro d
  induction d with
  | zero =>
    intro i k hi hk
    obtain ⟨k, rfl⟩ : ∃ m, k = m + 1 := ⟨k - 1, by omega⟩
    simp only [massiflaw03_PlaceRow.l0]
    rw [wrap_u64_in (M : Int) (by omega) (by omega), if_neg (by omega)]
  | succ d ih =>
    intro i k hi hk
    obtain ⟨k, rfl⟩ : ∃ m, k = m + 1 := ⟨k - 1, by omega⟩
    have h := row_l1 M i (by omega) (200 * d + 1) (fun k hk => ih (i + 1) k (by omega) hk) 9 0 k (by omega) (by rw [Nat.pow_zero, Nat.mod_one]) ⟨by omega, by rw [Nat.pow_zero, Nat.div_one]; omega⟩ (by rw [Nat.pow_zero, Nat.div_one]; omega) (by omega)
    simp only [massiflaw03_PlaceRow.l0]
    rw [wrap_u64_in (M : Int) (by omega) (by omega), if_pos (by omega)]
    rw [pkT_zero, Nat.pow_zero, Nat.div_one, Nat.add_zero, pl_leaf] at h
    exact h

theorem PlaceRow : massiflaw03_PlaceRow.Pure := by
  intro a0 _h0
  obtain ⟨u, hu, hu1⟩ : ∃ u : Nat, IntKind.u64.wrap a0 = u ∧ u < 2 ^ 64 := ⟨(IntKind.u64.wrap a0).toNat, by rw [wrap_u64_is]; omega, by rw [wrap_u64_is]; omega⟩
  have e1 : wrap64 (Int.tmod (u : Int) 260) = ((u % 260 : Nat) : Int) := by
    rw [Int.tmod_eq_emod_of_nonneg (by omega), wrap64_in _ (by omega) (by omega)]; omega
  refine ⟨60000, ?_⟩
  unfold massiflaw03_PlaceRow.f
  rw [massiflaw03_alive.is 60000 (by omega)]
  simp only [Option.bind_some, if_true]
  rw [hu, e1]
  have h := row_l0 (u % 260) (by omega) (u % 260) 0 60000 (by omega) (by omega)
  exact h

end Go.Proofs.Ytlbehenaoiddkaa.Pure
