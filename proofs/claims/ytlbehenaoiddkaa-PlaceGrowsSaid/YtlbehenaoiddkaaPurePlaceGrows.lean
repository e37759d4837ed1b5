/- massiflaw03.PlaceGrows answers true for all numbers of the parameter's type. No further condition. -/
import Derived.Test.YtlbehenaoiddkaaPPlaceGrowsx
import Derived.Test.YtlbehenaoiddkaaQPlaceGrows
namespace Go.Proofs.Ytlbehenaoiddkaa.Pure
open Go.RowKit Go.Proofs.Ytlbehenaoiddkaa.PPlaceGrows Go.Proofs.Ytlbehenaoiddkaa.MB Go.Proofs.YtlbehenaoiddkaaW.PrintWords Go.Proofs.YtlbehenaoiddkaaW.PrintLast

/-- Up the right side: as long as the number ends in ones. -/
theorem up_right (n : Nat) (hn : n < 2 ^ 40) : ∀ i, i ≤ tr (n + 1) → May i (n / 2 ^ i) ∧ pl i (n / 2 ^ i) = pl 0 n + i := by
  obtain ⟨t1, t2, t3⟩ := tr_spec (n + 1) (by omega) (by omega)
  have t4 : tr (n + 1) ≤ 40 := by
    have h1 : 2 ^ tr (n + 1) ≤ n + 1 := Nat.le_of_dvd (by omega) (Nat.dvd_of_mod_eq_zero t2)
    have h2 : 2 ^ tr (n + 1) < 2 ^ 41 := by omega
    have := (Nat.pow_lt_pow_iff_right (a := 2) (n := tr (n + 1)) (m := 41) (by omega)).1 h2
    omega
  intro i
  induction i with
  | zero => intro _; rw [Nat.pow_zero, Nat.div_one]; exact ⟨⟨by omega, by omega⟩, by omega⟩
  | succ i ih =>
    intro hi
    obtain ⟨m, e⟩ := ih (by omega)
    have hodd : n / 2 ^ i % 2 = 1 := by
      have h1 : (n + 1) % 2 ^ (i + 1) = 0 := by
        have : 2 ^ (i + 1) ∣ 2 ^ tr (n + 1) := Nat.pow_dvd_pow 2 hi
        exact Nat.mod_eq_zero_of_dvd (Nat.dvd_trans this (Nat.dvd_of_mod_eq_zero t2))
      obtain ⟨c, hc⟩ := Nat.dvd_of_mod_eq_zero h1
      have hp := two_pow_pos i
      have hc0 : 0 < c := by
        rcases Nat.eq_zero_or_pos c with h | h
        · subst h; omega
        · exact h
      rw [Nat.pow_succ, Nat.mul_assoc] at hc
      have e3 : n = (2 ^ i - 1) + 2 ^ i * (2 * c - 1) := by
        rw [Nat.mul_sub, Nat.mul_one]
        have : 2 ^ i * 1 ≤ 2 ^ i * (2 * c) := Nat.mul_le_mul_left _ (by omega)
        omega
      have e2 : n / 2 ^ i = 2 * c - 1 := by
        rw [e3, Nat.add_mul_div_left _ _ hp, Nat.div_eq_of_lt (by omega), Nat.zero_add]
      rw [e2]; omega
    have e1 : n / 2 ^ (i + 1) = n / 2 ^ i / 2 := by rw [Nat.pow_succ, Nat.div_div_eq_div_mul]
    have m2 : May (i + 1) (n / 2 ^ i / 2) := m.up (by omega)
    rw [e1]
    refine ⟨m2, ?_⟩
    have := pl_right i (n / 2 ^ i / 2) m2
    rw [show 2 * (n / 2 ^ i / 2) + 1 = n / 2 ^ i from by omega] at this
    omega

theorem last_peak (n : Nat) (hn : n < 2 ^ 63) : ∀ d, (∀ x l, pkS n d = l ++ [x] → x + 1 = upTo n 0) ∧ (pkS n d = [] → upTo n d = upTo n 0) := by
  intro d
  induction d with
  | zero => exact ⟨fun x l h => by rw [pkS_zero] at h; simp at h, fun _ => rfl⟩
  | succ d ih =>
    obtain ⟨i1, i2⟩ := ih
    have hb := bit_lt n d
    by_cases e : bit n d = 1
    · obtain ⟨s1, s2⟩ := upTo_step1 n d hn e
      rw [pkS_one n d e]
      refine ⟨fun x l h => ?_, fun h => by cases h⟩
      cases l with
      | nil =>
        simp at h
        obtain ⟨rfl, h2⟩ := h
        rw [← i2 h2]; exact s2
      | cons y l =>
        simp at h
        exact i1 x l h.2
    · have e0 : bit n d = 0 := by omega
      rw [pkS_no n d e0, ← upTo_step0 n d hn e0]
      exact ⟨i1, i2⟩

theorem grows_l0 (n : Nat) (hn : n < 2 ^ 40) : ∀ (d k i : Nat), i + d = tr (n + 1) + 1 → d + 66 < k → massiflaw03_PlaceGrows.l0 k n ((pl 0 n : Nat) : Int) ((2 * (n + 1) - ones (n + 1) : Nat) : Int) i = some true := by
  have ho := ones_le_self (n + 1)
  have ht := (tr_spec (n + 1) (by omega) (by omega)).1
  intro d
  induction d with
  | zero =>
    intro k i hi hk
    obtain ⟨k, rfl⟩ : ∃ m, k = m + 1 := ⟨k - 1, by omega⟩
    simp only [massiflaw03_PlaceGrows.l0]
    rw [massiflaw03_trail.is n k (by omega) (by omega)]
    simp only [Option.bind_some]
    rw [if_neg (by omega)]
    have e1 : IntKind.u64.wrap ((n : Int) + 1) = ((n + 1 : Nat) : Int) := by rw [wrap_u64_in _ (by omega) (by omega)]; omega
    rw [e1, place_Peaks.is (n + 1) k (by omega) (by omega)]
    simp only [Option.bind_some]
    have hlp := last_peak (n + 1) (by omega) 41
    have hne : pkS (n + 1) 41 ≠ [] := fun h => by
      have h1 := hlp.2 h
      rw [upTo_top (n + 1) (by omega), upTo_zero] at h1
      omega
    have hget := List.dropLast_concat_getLast hne
    have hx := hlp.1 _ _ hget.symm
    rw [upTo_zero] at hx
    have hlen := pkS_le (n + 1) 41
    have hpos : 0 < (pkS (n + 1) 41).length := List.length_pos_iff.2 hne
    rw [ints_length]
    rw [if_pos (by omega), wrap64_in _ (by omega) (by omega), if_pos (by omega), if_pos (by omega)]
    have e2 : rd (ints (pkS (n + 1) 41)) (((pkS (n + 1) 41).length : Int) - 1) = (((pkS (n + 1) 41).getLast hne : Nat) : Int) := by
      rw [show ((pkS (n + 1) 41).length : Int) - 1 = (((pkS (n + 1) 41).length - 1 : Nat) : Int) from by omega, rd_ints _ _ (by omega), List.getLast_eq_getElem]
    have e3 : IntKind.u64.wrap (((2 * (n + 1) - ones (n + 1) : Nat) : Int) - 1) = (((pkS (n + 1) 41).getLast hne : Nat) : Int) := by
      rw [wrap_u64_in _ (by omega) (by omega)]; omega
    rw [e2, e3, beq_self_eq_true]
  | succ d ih =>
    intro k i hi hk
    obtain ⟨k, rfl⟩ : ∃ m, k = m + 1 := ⟨k - 1, by omega⟩
    obtain ⟨m, e⟩ := up_right n hn i (by omega)
    have hmax := pl_le_max m
    simp only [massiflaw03_PlaceGrows.l0]
    rw [massiflaw03_trail.is n k (by omega) (by omega)]
    simp only [Option.bind_some]
    have e1 : IntKind.u64.wrap (((pl 0 n : Nat) : Int) + (i : Int)) = ((pl i (n / 2 ^ i) : Nat) : Int) := by rw [wrap_u64_in _ (by omega) (by omega)]; omega
    have hi1 := m.1
    rw [if_pos (by omega), e1, place_Block.yes i _ k m (by omega), shrc n i (by omega), wrap64_in (i : Int) (by omega) (by omega)]
    simp only [Option.bind_some, if_true, beq_self_eq_true, Bool.not_true, Bool.or_self, Bool.false_eq_true, if_false]
    rw [if_pos (by omega), wrap_u64_in _ (by omega) (by omega)]
    exact ih k (i + 1) (by omega) (by omega)

theorem PlaceGrows : massiflaw03_PlaceGrows.Pure := by
  intro a0 h0
  obtain ⟨n, rfl, hn⟩ := wf_u64 h0
  refine ⟨200, ?_⟩
  unfold massiflaw03_PlaceGrows.f
  rw [massiflaw03_alive.is 200 (by omega)]
  simp only [Option.bind_some, if_true]
  by_cases hb : 2 ^ 40 ≤ n
  · rw [place_Leaf.no n 200 (by omega)]
    by_cases hc : n = 2 ^ 40
    · rw [place_Nodes.is n 200 (by omega) (by omega)]
      simp only [Option.bind_some]
      rw [if_pos (by omega), beq_iff_eq.2 (show (n : Int) = 1099511627776 from by omega)]; simp
    · rw [place_Nodes.no n 200 (by omega)]
      simp only [Option.bind_some]
      rw [if_pos (by omega), beq_eq_false_iff_ne.2 (show (n : Int) ≠ 1099511627776 from by omega)]; simp
  · have e1 : IntKind.u64.wrap ((n : Int) + 1) = ((n + 1 : Nat) : Int) := by rw [wrap_u64_in _ (by omega) (by omega)]; omega
    have hle := ones_le_self n
    have hle1 := ones_le_self (n + 1)
    have ht := (tr_spec (n + 1) (by omega) (by omega)).1
    have hop : ones n + 1 = ones (n + 1) + tr (n + 1) := ones_pred 64 (n + 1) (by omega) (by omega)
    have h1 : 2 * (n + 1) - ones (n + 1) = 2 * n - ones n + 1 + tr (n + 1) := by omega
    have e2 : IntKind.u64.wrap (IntKind.u64.wrap (((2 * n - ones n : Nat) : Int) + 1) + ((tr (n + 1) : Nat) : Int)) = ((2 * (n + 1) - ones (n + 1) : Nat) : Int) := by
      rw [wrap_u64_in (((2 * n - ones n : Nat) : Int) + 1) (by omega) (by omega), wrap_u64_in _ (by omega) (by omega)]; omega
    rw [e1, place_Nodes.is n 200 (by omega) (by omega), place_Nodes.is (n + 1) 200 (by omega) (by omega), place_Leaf.is n 200 (by omega) (by omega), massiflaw03_trail.is n 200 (by omega) (by omega), pl_leaf]
    simp only [Option.bind_some]
    rw [if_neg (by omega), e2]
    simp only [if_true, bne_self_eq_false, massiflaw03_PlaceGrows.j0, Bool.false_eq_true, if_false]
    have := grows_l0 n (by omega) (tr (n + 1) + 1) 199 0 (by omega) (by omega)
    rw [pl_leaf] at this
    exact this

end Go.Proofs.Ytlbehenaoiddkaa.Pure
