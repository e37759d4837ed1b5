/- massiflaw02.NumBits answers true for all numbers of the parameter's type. No further condition. -/
import Derived.Test.YtbfmdcccnneanaaPNumBitsx
import Derived.Test.YtbfmdcccnneanaaQNumBits
namespace Go.Proofs.Ytbfmdcccnneanaa.Pure
open Go.RowKit Go.Proofs.Ytbfmdcccnneanaa.PNumBits Go.Proofs.Ytbfmdcccnneanaa.MB Go.Proofs.YtbfmdcccnneanaaW.PrintWords Go.Proofs.YtbfmdcccnneanaaW.PrintLast

theorem ones_split (n m : Nat) (h1 : 2 ^ m ≤ n) (h2 : n < 2 ^ (m + 1)) (hn : n < 2 ^ 64) : ones n = 1 + ones (n - 2 ^ m) := by
  rw [Nat.pow_succ] at h2
  have hm : m < 64 := (Nat.pow_lt_pow_iff_right (a := 2) (n := m) (m := 64) (by omega)).1 (by omega)
  have h := onesF_add m (64 - m) 1 (n - 2 ^ m) (by omega)
  rw [show 1 * 2 ^ m + (n - 2 ^ m) = n from by omega, show m + (64 - m) = 64 from by omega] at h
  unfold ones
  rw [h, onesF_big m 64 (n - 2 ^ m) (by omega) (by omega)]
  have : onesF (64 - m) 1 = 1 := by
    have := onesF_two_pow 0 (64 - m) (by omega); simpa using this
  rw [this]

theorem ceil_one (n : Nat) (h0 : 0 < n) (hn : n < 2 ^ 64) : ceil n = if ones n = 1 then lg n else lg n + 1 := by
  obtain ⟨m, hm, h1, h2⟩ := lg_spec n h0
  have hs := ones_split n m h1 h2 hn
  have hp := two_pow_pos m
  rw [Nat.pow_succ] at h2
  rw [hm]
  by_cases e : n = 2 ^ m
  · have e0 : n - 2 ^ m = 0 := by omega
    rw [e0, ones_zero] at hs
    rw [if_pos (by omega)]
    unfold ceil
    by_cases e1 : n < 2
    · rw [if_pos e1]
      have h3 : n = 1 := by omega
      have h4 : lg n = 0 := by rw [h3]; rfl
      omega
    · rw [if_neg e1]
      obtain ⟨j, rfl⟩ : ∃ j, m = j + 1 := ⟨m - 1, by
        rcases Nat.eq_zero_or_pos m with h | h
        · subst h; simp at e; omega
        · omega⟩
      have e2 : 2 ^ (j + 1) = 2 * 2 ^ j := by rw [Nat.pow_succ]; omega
      have := two_pow_pos j
      rw [lg_eq (n := n - 1) (m := j) (by omega) (by omega)]; omega
  · have := ones_pos (n - 2 ^ m) (by omega) (by omega)
    rw [if_neg (by omega)]
    unfold ceil
    rw [if_neg (by omega), lg_eq (n := n - 1) (m := m) (by omega) (by rw [Nat.pow_succ]; omega)]

def firstOf (n m : Nat) : Int := if n / 2 ^ m = 0 then -1 else lg n
def lastOf (n m : Nat) : Int := if n / 2 ^ m = 0 then -1 else ((tr (n / 2 ^ m) + m : Nat) : Int)

theorem half_up (n j : Nat) : n / 2 ^ j = 2 * (n / 2 ^ (j + 1)) + bit n j := by
  unfold bit
  rw [Nat.pow_succ, ← Nat.div_div_eq_div_mul]; omega

theorem j1_true (k : Nat) (hk : 65 ≤ k) (n : Nat) (h0 : 0 < n) (hn : n < 2 ^ 64) : massiflaw02_NumBits.j1 (k + 1) n (lg n) (ones n : Nat) false = some true := by
  simp only [massiflaw02_NumBits.j1, Bool.false_eq_true, if_false]
  rw [num_Ceil.is n k hn hk, ceil_one n h0 hn]
  simp only [Option.bind_some]
  have := lg_lt n 64 hn
  have := lg_ge n
  by_cases e : ones n = 1
  · rw [if_pos (by omega), if_pos e]; simp
  · rw [if_neg (by omega), if_neg e, wrap64_in _ (by omega) (by omega)]; simp

theorem l0_end (k : Nat) (hk : 66 ≤ k) (n : Nat) (h0 : 0 < n) (hn : n < 2 ^ 64) : massiflaw02_NumBits.l0 (k + 1) n 0 (lg n) (tr n : Nat) (ones n : Nat) (-1) = some true := by
  obtain ⟨k, rfl⟩ : ∃ m, k = m + 1 := ⟨k - 1, by omega⟩
  simp only [massiflaw02_NumBits.l0]
  have hl := ones_le n
  obtain ⟨ht, _, _⟩ := tr_spec n h0 hn
  have hp := ones_pred 64 n h0 hn
  have hpos := ones_pos n h0 hn
  have e1 : IntKind.u64.wrap ((n : Int) - 1) = ((n - 1 : Nat) : Int) := by rw [wrap_u64_in _ (by omega) (by omega)]; omega
  have e2 : wrap64 (wrap64 ((ones n : Nat) - 1 : Int) + (tr n : Nat)) = ((ones (n - 1) : Nat) : Int) := by
    have : ones (n - 1) + 1 = ones n + tr n := hp
    rw [wrap64_in ((ones n : Nat) - 1 : Int) (by omega) (by omega), wrap64_in _ (by omega) (by omega)]; omega
  rw [if_neg (by omega), num_Ones.is n _ hn (by omega), num_Log.is n _ hn (by omega), num_Trail.is n _ hn (by omega), e1, num_Ones.is (n - 1) _ (by omega) (by omega), e2]
  simp only [Option.bind_some, if_true, bne_self_eq_false]
  exact j1_true k (by omega) n h0 hn

theorem l0_run (n : Nat) (h0 : 0 < n) (hn : n < 2 ^ 64) : ∀ (m k : Nat), m ≤ 64 → m + 67 ≤ k → massiflaw02_NumBits.l0 k n ((n % 2 ^ m : Nat) : Int) (firstOf n m) (lastOf n m) ((ones (n / 2 ^ m) : Nat) : Int) ((m : Int) - 1) = some true := by
  intro m
  induction m with
  | zero =>
    intro k _ hk
    obtain ⟨k, rfl⟩ : ∃ m, k = m + 1 := ⟨k - 1, by omega⟩
    have h := l0_end k (by omega) n h0 hn
    have hne : ¬ n = 0 := by omega
    simpa [firstOf, lastOf, Nat.mod_one, hne] using h
  | succ j ih =>
    intro k hm hk
    obtain ⟨k, rfl⟩ : ∃ m, k = m + 1 := ⟨k - 1, by omega⟩
    have h := ih k (by omega) (by omega)
    have hms := mod_succ n j
    have hup := half_up n j
    have hb := bit_lt n j
    have hpj := two_pow_pos j
    have hpl : 2 ^ j < 2 ^ 64 := Nat.pow_lt_pow_right (by omega) (by omega)
    have hlt := Nat.mod_lt n hpj
    have hq : n / 2 ^ (j + 1) < 2 ^ 64 := Nat.lt_of_le_of_lt (Nat.div_le_self _ _) hn
    have hq' : n / 2 ^ j < 2 ^ 64 := Nat.lt_of_le_of_lt (Nat.div_le_self _ _) hn
    have hl1 := ones_le (n / 2 ^ (j + 1))
    have hx : ((j + 1 : Nat) : Int) - 1 = (j : Int) := by omega
    have hw : wrap64 ((j : Int) - 1) = (j : Int) - 1 := wrap64_in _ (by omega) (by omega)
    have hge : (j : Int) ≥ 0 := by omega
    simp only [massiflaw02_NumBits.l0]
    rw [hx, if_pos hge, num_Pow.is j (by omega), hw]
    simp only [Option.bind_some, if_true]
    by_cases e : bit n j = 1
    · rw [e] at hms hup
      have hoh : ones (n / 2 ^ j) = ones (n / 2 ^ (j + 1)) + 1 := by
        have := ones_half _ hq'
        rw [show (n / 2 ^ j) / 2 = n / 2 ^ (j + 1) from by omega, show (n / 2 ^ j) % 2 = 1 from by omega] at this; omega
      have hlast : lastOf n j = (j : Int) := by
        unfold lastOf
        rw [if_neg (by omega), tr_odd _ (by omega), Nat.zero_add]
      have hge2 : ((n % 2 ^ (j + 1) : Nat) : Int) ≥ ((2 ^ j : Nat) : Int) := Int.ofNat_le.2 (by omega)
      have hsub : IntKind.u64.wrap (((n % 2 ^ (j + 1) : Nat) : Int) - ((2 ^ j : Nat) : Int)) = ((n % 2 ^ j : Nat) : Int) := by
        rw [hms]
        generalize n % 2 ^ j = r at *
        generalize 2 ^ j = p at *
        rw [wrap_u64_in _ (by omega) (by omega)]; omega
      have hcnt : wrap64 (((ones (n / 2 ^ (j + 1)) : Nat) : Int) + 1) = ((ones (n / 2 ^ j) : Nat) : Int) := by
        rw [hoh, wrap64_in _ (by omega) (by omega)]; omega
      rw [if_pos hge2, hsub, hcnt]
      rw [hlast] at h
      by_cases ez : n / 2 ^ (j + 1) = 0
      · have hf1 : firstOf n (j + 1) = -1 := by unfold firstOf; rw [if_pos ez]
        have hf : firstOf n j = (j : Int) := by
          unfold firstOf
          rw [if_neg (by omega)]
          have hsm : n % 2 ^ (j + 1) = n := Nat.mod_eq_of_lt ((Nat.div_eq_zero_iff_lt (two_pow_pos _)).1 ez)
          exact lg_eq (by omega) (by rw [Nat.pow_succ]; omega)
        rw [hf] at h
        rw [hf1, if_pos (by omega)]; exact h
      · have hf1 : firstOf n (j + 1) = lg n := by unfold firstOf; rw [if_neg ez]
        have hf : firstOf n j = lg n := by unfold firstOf; rw [if_neg (by omega)]
        obtain ⟨t, ht, _, _⟩ := lg_spec n h0
        rw [hf] at h
        rw [hf1, if_neg (by omega)]; exact h
    · have e0 : bit n j = 0 := by omega
      rw [e0] at hms hup
      have hoh : ones (n / 2 ^ j) = ones (n / 2 ^ (j + 1)) := by
        have := ones_half _ hq'
        rw [show (n / 2 ^ j) / 2 = n / 2 ^ (j + 1) from by omega, show (n / 2 ^ j) % 2 = 0 from by omega] at this; omega
      have hfirst : firstOf n j = firstOf n (j + 1) := by
        unfold firstOf
        by_cases ez : n / 2 ^ (j + 1) = 0
        · rw [if_pos ez, if_pos (by omega)]
        · rw [if_neg ez, if_neg (by omega)]
      have hlast : lastOf n j = lastOf n (j + 1) := by
        unfold lastOf
        by_cases ez : n / 2 ^ (j + 1) = 0
        · rw [if_pos ez, if_pos (by omega)]
        · rw [if_neg ez, if_neg (by omega), tr_even (n / 2 ^ j) (by omega) (by omega) hq', show (n / 2 ^ j) / 2 = n / 2 ^ (j + 1) from by omega]
          omega
      have hlt2 : ¬ ((n % 2 ^ (j + 1) : Nat) : Int) ≥ ((2 ^ j : Nat) : Int) := fun hc => by have := Int.ofNat_le.1 hc; omega
      rw [if_neg hlt2, hms, Nat.mul_zero, Nat.add_zero, ← hfirst, ← hlast, ← hoh]
      exact h

theorem NumBits : massiflaw02_NumBits.Pure := by
  intro a0 h0
  obtain ⟨n, rfl, hn⟩ := wf_u64 h0
  refine ⟨140, ?_⟩
  unfold massiflaw02_NumBits.f
  rw [massiflaw02_alive.is 140 (by omega)]
  simp only [Option.bind_some, if_true]
  by_cases e : n = 0
  · subst e
    have o := num_Ones.is 0 140 (by omega) (by omega)
    have l := num_Log.is 0 140 (by omega) (by omega)
    have c := num_Ceil.is 0 140 (by omega) (by omega)
    have t := num_Trail.is 0 140 (by omega) (by omega)
    rw [ones_zero] at o; rw [lg_zero] at l; rw [tr_zero] at t
    rw [if_pos (by omega), o, l, c, t]; rfl
  · rw [if_neg (by omega)]
    have h := l0_run n (by omega) hn 64 140 (by omega) (by omega)
    have hd : n / 2 ^ 64 = 0 := Nat.div_eq_of_lt hn
    rw [Nat.mod_eq_of_lt hn] at h
    unfold firstOf lastOf at h
    rw [hd, if_pos rfl, if_pos rfl, ones_zero] at h
    exact h

end Go.Proofs.Ytbfmdcccnneanaa.Pure
