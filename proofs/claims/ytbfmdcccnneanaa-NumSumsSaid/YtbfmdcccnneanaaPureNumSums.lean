/- massiflaw02.NumSums answers true for all numbers of the parameters' types. No further condition. -/
import Derived.Test.YtbfmdcccnneanaaPNumSumsx
import Derived.Test.YtbfmdcccnneanaaQNumSums
namespace Go.Proofs.Ytbfmdcccnneanaa.Pure
open Go.RowKit Go.Proofs.Ytbfmdcccnneanaa.PNumSums Go.Proofs.Ytbfmdcccnneanaa.MB Go.Proofs.YtbfmdcccnneanaaW.PrintWords Go.Proofs.YtbfmdcccnneanaaW.PrintLast

theorem numSums_j2 (h : Nat) (hh : h < 64) (k : Nat) : massiflaw02_NumSums.j2 (k + 1) h ((2 ^ h : Nat) : Int) false = some true := by
  simp only [massiflaw02_NumSums.j2, Bool.false_eq_true, if_false]
  have hp : 2 ^ h < 2 ^ 64 := Nat.pow_lt_pow_right (by omega) hh
  have e2 : 2 ^ (h + 1) = 2 ^ h + 2 ^ h := by rw [Nat.pow_succ]; omega
  rw [wrap64_in _ (by omega) (by omega), num_Add.is (2 ^ h) (2 ^ h) hp hp]
  by_cases e : h + 1 < 64
  · have hp2 : 2 ^ (h + 1) < 2 ^ 64 := Nat.pow_lt_pow_right (by omega) e
    have hq := num_Pow.is (h + 1) e
    rw [show (((h + 1 : Nat)) : Int) = (h : Int) + 1 from by omega] at hq
    rw [hq, if_pos (by omega)]; simp only [Option.bind_some]; rw [e2]; simp
  · have : h = 63 := by omega
    subst this
    rw [num_Pow.no _ (by omega)]; rfl

theorem numSums_j1 (x : Int) (k : Nat) (hk : 65 ≤ k) : massiflaw02_NumSums.j1 (k + 1) x false = some true := by
  obtain ⟨k, rfl⟩ : ∃ m, k = m + 1 := ⟨k - 1, by omega⟩
  simp only [massiflaw02_NumSums.j1, Bool.false_eq_true, if_false]
  by_cases hh : 0 ≤ x ∧ x < 64
  · obtain ⟨h, rfl⟩ := Int.eq_ofNat_of_zero_le hh.1
    have h64 : h < 64 := by omega
    have hp : 2 ^ h < 2 ^ 64 := Nat.pow_lt_pow_right (by omega) h64
    have hc : ceil (2 ^ h) = h := by
      unfold ceil
      rcases Nat.eq_zero_or_pos h with e | e
      · subst e; rfl
      · obtain ⟨j, rfl⟩ : ∃ j, h = j + 1 := ⟨h - 1, by omega⟩
        have h2 := two_pow_pos j
        have e2 : 2 ^ (j + 1) = 2 * 2 ^ j := by rw [Nat.pow_succ]; omega
        rw [if_neg (by omega), lg_eq (m := j) (by omega) (by omega)]; omega
    have hA : ¬ ((h : Int) < 0) := by omega
    have hB : ¬ ((h : Int) > 63) := by omega
    rw [num_Pow.is h h64]
    simp only [Option.bind_some, if_true]
    rw [if_neg hA, if_neg hB, num_Ones.is _ _ hp hk, num_Log.is _ _ hp hk, num_Trail.is _ _ hp hk, num_Ceil.is _ _ hp hk, ones_two_pow h h64, lg_two_pow, tr_two_pow h h64, hc, ]
    have := numSums_j2 h h64 k
    simpa using this
  · rw [num_Pow.no x (by omega)]
    by_cases e : x < 0
    · simp [e]
    · simp [e]; omega

theorem NumSums : massiflaw02_NumSums.Pure := by
  intro a0 a1 a2 h0 h1 h2
  obtain ⟨n, rfl, hn⟩ := wf_u64 h0
  obtain ⟨b, rfl, hb⟩ := wf_u64 h1
  have hw := wf_i64 h2
  refine ⟨68, ?_⟩
  have J := numSums_j1 a2 66 (by omega)
  unfold massiflaw02_NumSums.f
  rw [massiflaw02_alive.is 68 (by omega), num_Add.is n b hn hb, num_Add.is b n hb hn, Nat.add_comm b n]
  by_cases e : n + b < 2 ^ 64
  · rw [if_pos e]
    have e1 : IntKind.u64.wrap (((n + b : Nat) : Int) - n) = b := by rw [wrap_u64_in _ (by omega) (by omega)]; omega
    have e2 : ¬ (((n + b : Nat) : Int) < n) := by omega
    have e3 : ¬ (((n + b : Nat) : Int) < b) := by omega
    simp only [Option.bind_some, if_true, massiflaw02_NumSums.j0, bne_self_eq_false, Bool.false_eq_true, if_false]
    rw [if_neg e2, if_neg e3, if_pos e1]; exact J
  · rw [if_neg e]
    have e1 : ¬ (IntKind.u64.wrap ((n : Int) + b) ≥ n) := by rw [wrap_u64_is]; omega
    simp only [Option.bind_some, if_true, massiflaw02_NumSums.j0, bne_self_eq_false, Bool.false_eq_true, if_false]
    rw [decide_eq_false e1]; exact J

end Go.Proofs.Ytbfmdcccnneanaa.Pure
