/- massiflaw03.PlacePeaks answers true for all numbers of the parameter's type. No further condition. -/
import Derived.Test.YtlbehenaoiddkaaPPlacePeaksx
import Derived.Test.YtlbehenaoiddkaaQPlacePeaks
namespace Go.Proofs.Ytlbehenaoiddkaa.Pure
open Go.RowKit Go.Proofs.Ytlbehenaoiddkaa.PPlacePeaks Go.Proofs.Ytlbehenaoiddkaa.MB Go.Proofs.YtlbehenaoiddkaaW.PrintWords Go.Proofs.YtlbehenaoiddkaaW.PrintLast

theorem peaks_l0 (n : Nat) (hn : n ≤ 2 ^ 40) (L : List Int) (hL : L = ints (pkS n 41)) : ∀ (d k : Nat) (pre : List Int), d ≤ 41 → 2 * d + 70 < k → L = pre ++ ints (pkS n d) →
    massiflaw03_PlacePeaks.l0 k n L ((2 * n - ones n : Nat) : Int) true ((upTo n d : Nat) : Int) (pre.length : Int) ((d : Int) - 1) = some true := by
  have hlen : L.length ≤ 41 := by rw [hL, ints_length]; exact pkS_le n 41
  intro d
  induction d with
  | zero =>
    intro k pre _ hk hp
    obtain ⟨k, rfl⟩ : ∃ m, k = m + 1 := ⟨k - 1, by omega⟩
    rw [pkS_zero, ints_nil, List.append_nil] at hp
    simp only [massiflaw03_PlacePeaks.l0]
    rw [if_neg (by omega), hp, if_pos rfl, upTo_zero]; simp
  | succ d ih =>
    intro k pre hd hk hp
    obtain ⟨k, rfl⟩ : ∃ m, k = m + 1 := ⟨k - 1, by omega⟩
    obtain ⟨k, rfl⟩ : ∃ m, k = m + 1 := ⟨k - 1, by omega⟩
    have hb := bit_lt n d
    have hup := upTo_le n d
    have hup1 := upTo_le n (d + 1)
    have hx : ((d + 1 : Nat) : Int) - 1 = (d : Int) := by omega
    have hw : wrap64 ((d : Int) - 1) = (d : Int) - 1 := wrap64_in _ (by omega) (by omega)
    have hpd : 2 ^ d ≤ 2 ^ 40 := Nat.pow_le_pow_right (by omega) (by omega)
    have hs2 : shl .u64 2 (d : Int) = ((2 * 2 ^ d : Nat) : Int) := shlc 2 d (by omega) (by omega)
    have hpp := two_pow_pos d
    have htm : Int.tmod ((n / 2 ^ d : Nat) : Int) 2 = ((bit n d : Nat) : Int) := by
      rw [Int.tmod_eq_emod_of_nonneg (Int.natCast_nonneg _)]; rfl
    rw [massiflaw03_PlacePeaks.l0]
    rw [hx, if_pos (by omega), wrap_u64_in (d : Int) (by omega) (by omega), if_pos (by omega), shrc n d (by omega), htm, hw, hs2]
    by_cases e : bit n d = 1
    · obtain ⟨s1, s2⟩ := upTo_step1 n d (by omega) e
      have hm := may_of_bit n d hn (by omega) e
      have hpc := pkS_one n d e
      rw [hpc, ints_cons] at hp
      have hplen : pre.length < L.length := by rw [hp, List.length_append]; simp
      have hrd : rd L (pre.length : Int) = ((pl d (n / 2 ^ d - 1) : Nat) : Int) := by rw [hp]; exact rd_mid _ _ _
      have e1 : IntKind.u64.wrap (IntKind.u64.wrap (((upTo n (d + 1) : Nat) : Int) + ((2 * 2 ^ d : Nat) : Int)) - 1) = ((upTo n d : Nat) : Int) := by
        generalize 2 ^ d = p at *
        rw [wrap_u64_in (((upTo n (d + 1) : Nat) : Int) + _) (by omega) (by omega), wrap_u64_in _ (by omega) (by omega)]; omega
      have e2 : IntKind.u64.wrap (((upTo n d : Nat) : Int) - 1) = ((pl d (n / 2 ^ d - 1) : Nat) : Int) := by rw [wrap_u64_in _ (by omega) (by omega)]; omega
      rw [if_neg (by omega), if_neg (by omega), if_pos (by omega), if_pos (by omega), e1, e2, hrd, bne_self_eq_false]
      rw [massiflaw03_PlacePeaks.j1]
      rw [if_neg (by simp), if_pos (by omega), if_pos (by omega), hrd, place_Height.yes d _ k hm (by omega)]
      simp only [Option.bind_some, if_true]
      rw [hw, wrap64_in _ (by omega) (by omega)]
      have h := ih k (pre ++ [((pl d (n / 2 ^ d - 1) : Nat) : Int)]) (by omega) (by omega) (by rw [hp, List.append_assoc]; rfl)
      rw [List.length_append, Int.natCast_add] at h
      exact h
    · have e0 : bit n d = 0 := by omega
      rw [if_pos (by omega)]
      have h := ih (k + 1) pre (by omega) (by omega) (by rw [← pkS_no n d e0]; exact hp)
      rw [upTo_step0 n d (by omega) e0] at h
      exact h

theorem PlacePeaks : massiflaw03_PlacePeaks.Pure := by
  intro a0 h0
  obtain ⟨n, rfl, hn⟩ := wf_u64 h0
  refine ⟨200, ?_⟩
  unfold massiflaw03_PlacePeaks.f
  rw [massiflaw03_alive.is 200 (by omega)]
  simp only [Option.bind_some, if_true]
  by_cases hb : 2 ^ 40 < n
  · rw [place_Nodes.no n 200 hb, place_Peaks.no n 200 hb]
    simp only [Option.bind_some]
    rw [if_pos (by omega)]; rfl
  · rw [place_Nodes.is n 200 (by omega) (by omega), place_Peaks.is n 200 (by omega) (by omega)]
    simp only [Option.bind_some]
    rw [if_neg (by omega)]
    have h := peaks_l0 n (by omega) _ rfl 41 200 [] (by omega) (by omega) rfl
    rw [upTo_top n (by omega)] at h
    exact h

end Go.Proofs.Ytlbehenaoiddkaa.Pure
