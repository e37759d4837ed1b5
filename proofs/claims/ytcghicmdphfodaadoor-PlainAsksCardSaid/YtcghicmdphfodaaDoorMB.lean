/- Plain facts about the binary digits of natural numbers: sums of digits, highest and lowest one. No condition, no program. -/
import Derived.WalkSmall
namespace Go.Proofs.YtcghicmdphfodaaDoor.MB

/-- The digit i of n. -/
def bit (n i : Nat) : Nat := n / 2 ^ i % 2
def onesF : Nat → Nat → Nat
  | 0, _ => 0
  | f + 1, n => n % 2 + onesF f (n / 2)
/-- How many ones n < 2^64 has. -/
def ones (n : Nat) : Nat := onesF 64 n
def trF : Nat → Nat → Nat
  | 0, _ => 0
  | f + 1, n => if n % 2 = 1 then 0 else trF f (n / 2) + 1
/-- How many zeros stand at the end; 64 of 0. -/
def tr (n : Nat) : Nat := trF 64 n
/-- The highest one; -1 of 0. -/
def lg (n : Nat) : Int := if n = 0 then -1 else (Nat.log2 n : Int)

theorem bit_lt (n i : Nat) : bit n i < 2 := Nat.mod_lt _ (by omega)
theorem bit_zero (n : Nat) : bit n 0 = n % 2 := by simp [bit]
theorem bit_succ (n i : Nat) : bit n (i + 1) = bit (n / 2) i := by
  unfold bit; rw [Nat.div_div_eq_div_mul, Nat.pow_succ, Nat.mul_comm]
theorem two_pow_pos (i : Nat) : 0 < 2 ^ i := Nat.pow_pos (by omega)
theorem mod_succ (n i : Nat) : n % 2 ^ (i + 1) = n % 2 ^ i + 2 ^ i * bit n i := by
  unfold bit; rw [Nat.pow_succ, Nat.mod_mul]
theorem mod_double (n i : Nat) : n % 2 ^ (i + 1) = n % 2 + 2 * (n / 2 % 2 ^ i) := by
  rw [Nat.pow_succ, Nat.mul_comm, Nat.mod_mul]
theorem onesF_snoc : ∀ (i n : Nat), onesF (i + 1) n = onesF i n + bit n i
  | 0, n => by simp [onesF, bit]
  | i + 1, n => by
    have h := onesF_snoc i (n / 2)
    rw [onesF, h, onesF, bit_succ]; omega
theorem onesF_zero : ∀ i, onesF i 0 = 0
  | 0 => rfl
  | i + 1 => by rw [onesF, Nat.zero_div, onesF_zero i]
theorem onesF_le : ∀ i n, onesF i n ≤ i
  | 0, _ => Nat.le_refl _
  | i + 1, n => by have := onesF_le i (n / 2); rw [onesF]; omega
theorem ones_le (n : Nat) : ones n ≤ 64 := onesF_le 64 n
/-- More digits than there are change nothing. -/
theorem onesF_big : ∀ (i j n : Nat), n < 2 ^ i → i ≤ j → onesF j n = onesF i n
  | 0, j, n, h, _ => by have : n = 0 := by simpa using h
                        subst this; rw [onesF_zero]; rfl
  | i + 1, 0, n, _, hj => by omega
  | i + 1, j + 1, n, h, hj => by
    rw [onesF, onesF, onesF_big i j (n / 2) (by rw [Nat.pow_succ] at h; omega) (by omega)]
theorem onesF_mod : ∀ (i n : Nat), onesF i (n % 2 ^ i) = onesF i n
  | 0, n => rfl
  | i + 1, n => by
    rw [onesF, onesF]
    have h := mod_double n i
    have e1 : n % 2 ^ (i + 1) % 2 = n % 2 := by omega
    have e2 : n % 2 ^ (i + 1) / 2 = n / 2 % 2 ^ i := by omega
    rw [e1, e2, onesF_mod i (n / 2)]
theorem ones_half (n : Nat) (h : n < 2 ^ 64) : ones n = n % 2 + ones (n / 2) := by
  unfold ones
  rw [show onesF 64 n = onesF 65 n from (onesF_big 64 65 n h (by omega)).symm, onesF]
theorem onesF_eq (i n : Nat) (h : n < 2 ^ i) (hi : i ≤ 64) : onesF i n = ones n := (onesF_big i 64 n h hi).symm
theorem onesF_eq' (i n : Nat) (h : n < 2 ^ 64) (hi : 64 ≤ i) : onesF i n = ones n := onesF_big 64 i n h hi
theorem onesF_pos : ∀ (i n : Nat), 0 < n → n < 2 ^ i → 0 < onesF i n
  | 0, n, h, h' => by simp at h'; omega
  | i + 1, n, h, h' => by
    rw [onesF]
    by_cases e : n % 2 = 1
    · omega
    · have := onesF_pos i (n / 2) (by omega) (by rw [Nat.pow_succ] at h'; omega); omega
theorem ones_zero : ones 0 = 0 := by decide
theorem ones_pos (n : Nat) (h : 0 < n) (h' : n < 2 ^ 64) : 0 < ones n := onesF_pos 64 n h h'
/-- The ones of two parts. -/
theorem onesF_add : ∀ (i j a b : Nat), b < 2 ^ i → onesF (i + j) (a * 2 ^ i + b) = onesF j a + onesF i b
  | 0, j, a, b, h => by
    have : b = 0 := by simpa using h
    subst this; simp [onesF]
  | i + 1, j, a, b, h => by
    have e1 : (a * 2 ^ (i + 1) + b) % 2 = b % 2 := by rw [Nat.pow_succ, ← Nat.mul_assoc]; omega
    have e2 : (a * 2 ^ (i + 1) + b) / 2 = a * 2 ^ i + b / 2 := by rw [Nat.pow_succ, ← Nat.mul_assoc]; omega
    rw [show i + 1 + j = (i + j) + 1 from by omega, onesF, onesF, e1, e2, onesF_add i j a (b / 2) (by rw [Nat.pow_succ] at h; omega)]; omega
theorem onesF_two_pow : ∀ (i j : Nat), i < j → onesF j (2 ^ i) = 1
  | 0, j + 1, _ => by simp [onesF, onesF_zero]
  | i + 1, j + 1, h => by
    rw [onesF, Nat.pow_succ]
    have e1 : 2 ^ i * 2 % 2 = 0 := by omega
    have e2 : 2 ^ i * 2 / 2 = 2 ^ i := by omega
    rw [e1, e2, onesF_two_pow i j (by omega)]
theorem ones_two_pow (i : Nat) (h : i < 64) : ones (2 ^ i) = 1 := onesF_two_pow i 64 h

/-! ### the highest one -/
theorem lg_zero : lg 0 = -1 := rfl
theorem lg_spec (n : Nat) (h : 0 < n) : ∃ m : Nat, lg n = m ∧ 2 ^ m ≤ n ∧ n < 2 ^ (m + 1) := by
  refine ⟨Nat.log2 n, ?_, ?_, ?_⟩
  · unfold lg; rw [if_neg (by omega)]
  · exact Nat.log2_self_le (by omega)
  · exact Nat.lt_log2_self
theorem pow_le_of {a b : Nat} (h : 2 ^ a < 2 ^ (b + 1)) : a ≤ b := by
  have := (Nat.pow_lt_pow_iff_right (a := 2) (by omega)).1 h; omega
theorem top_unique {n a b : Nat} (h1 : 2 ^ a ≤ n) (h2 : n < 2 ^ (a + 1)) (h3 : 2 ^ b ≤ n) (h4 : n < 2 ^ (b + 1)) : a = b := by
  have := pow_le_of (Nat.lt_of_le_of_lt h1 h4); have := pow_le_of (Nat.lt_of_le_of_lt h3 h2); omega
theorem lg_eq {n m : Nat} (h1 : 2 ^ m ≤ n) (h2 : n < 2 ^ (m + 1)) : lg n = m := by
  have hp := two_pow_pos m
  obtain ⟨a, ha, h3, h4⟩ := lg_spec n (by omega)
  rw [ha, top_unique h1 h2 h3 h4]
theorem lg_two_pow (i : Nat) : lg (2 ^ i) = i := lg_eq (Nat.le_refl _) (by rw [Nat.pow_succ]; have := two_pow_pos i; omega)
theorem lg_half (n : Nat) (h : 0 < n) : lg n = lg (n / 2) + 1 := by
  by_cases h1 : n = 1
  · subst h1; decide
  · obtain ⟨m, hm, h2, h3⟩ := lg_spec (n / 2) (by omega)
    rw [hm]
    have := lg_eq (n := n) (m := m + 1) (by rw [Nat.pow_succ]; omega) (by rw [Nat.pow_succ]; omega)
    rw [this]; omega
theorem lg_lt (n i : Nat) (h : n < 2 ^ i) : lg n < i := by
  by_cases e : n = 0
  · subst e; rw [lg_zero]; omega
  · obtain ⟨m, hm, h2, h3⟩ := lg_spec n (by omega)
    have := (Nat.pow_lt_pow_iff_right (a := 2) (n := m) (m := i) (by omega)).1 (by omega)
    omega
theorem lg_ge (n : Nat) : -1 ≤ lg n := by unfold lg; split <;> omega

/-! ### zeros at the end -/
theorem trF_spec : ∀ (i n : Nat), 0 < n → n < 2 ^ i → trF i n < i ∧ n % 2 ^ trF i n = 0 ∧ bit n (trF i n) = 1
  | 0, n, h, h' => by simp at h'; omega
  | i + 1, n, h, h' => by
    rw [trF]
    by_cases e : n % 2 = 1
    · rw [if_pos e]; refine ⟨by omega, by simp [Nat.mod_one], by rw [bit_zero, e]⟩
    · rw [if_neg e]
      obtain ⟨h1, h2, h3⟩ := trF_spec i (n / 2) (by omega) (by rw [Nat.pow_succ] at h'; omega)
      refine ⟨by omega, by rw [mod_double]; omega, by rw [bit_succ, h3]⟩
theorem tr_spec (n : Nat) (h : 0 < n) (h' : n < 2 ^ 64) : tr n < 64 ∧ n % 2 ^ tr n = 0 ∧ bit n (tr n) = 1 := trF_spec 64 n h h'
theorem tr_zero : tr 0 = 64 := by decide
theorem bit_of_mod {n a b : Nat} (h : n % 2 ^ b = 0) (hab : a < b) : bit n a = 0 := by
  unfold bit
  obtain ⟨c, rfl⟩ : ∃ c, b = a + 1 + c := ⟨b - (a + 1), by omega⟩
  have h1 : n % 2 ^ (a + 1) = 0 := by
    have : 2 ^ (a + 1) ∣ 2 ^ (a + 1 + c) := Nat.pow_dvd_pow 2 (by omega)
    exact Nat.mod_eq_zero_of_dvd (Nat.dvd_trans this (Nat.dvd_of_mod_eq_zero h))
  rw [Nat.pow_succ, Nat.mod_mul] at h1
  have := two_pow_pos a
  have h2 : 2 ^ a * (n / 2 ^ a % 2) = 0 := by omega
  rcases Nat.mul_eq_zero.1 h2 with h3 | h3
  · omega
  · exact h3
theorem low_unique {n a b : Nat} (h1 : n % 2 ^ a = 0) (h2 : bit n a = 1) (h3 : n % 2 ^ b = 0) (h4 : bit n b = 1) : a = b := by
  rcases Nat.lt_trichotomy a b with h | h | h
  · have := bit_of_mod h3 h; omega
  · exact h
  · have := bit_of_mod h1 h; omega
theorem tr_eq {n t : Nat} (h : n < 2 ^ 64) (h1 : n % 2 ^ t = 0) (h2 : bit n t = 1) : tr n = t := by
  have h0 : 0 < n := by
    rcases Nat.eq_zero_or_pos n with e | e
    · subst e; simp [bit] at h2
    · exact e
  obtain ⟨_, h3, h4⟩ := tr_spec n h0 h
  exact low_unique h3 h4 h1 h2
theorem tr_two_pow (i : Nat) (h : i < 64) : tr (2 ^ i) = i :=
  tr_eq (Nat.pow_lt_pow_right (by omega) h) (Nat.mod_self _) (by unfold bit; rw [Nat.div_self (two_pow_pos i)])
theorem trF_big : ∀ (i j n : Nat), 0 < n → n < 2 ^ i → i ≤ j → trF j n = trF i n
  | 0, j, n, h, h', _ => by simp at h'; omega
  | i + 1, 0, n, _, _, hj => by omega
  | i + 1, j + 1, n, h, h', hj => by
    rw [trF, trF]
    by_cases e : n % 2 = 1
    · rw [if_pos e, if_pos e]
    · rw [if_neg e, if_neg e, trF_big i j (n / 2) (by omega) (by rw [Nat.pow_succ] at h'; omega) (by omega)]
theorem tr_odd (n : Nat) (h : n % 2 = 1) : tr n = 0 := by unfold tr; rw [trF, if_pos h]
theorem tr_even (n : Nat) (h : n % 2 = 0) (h0 : 0 < n) (h' : n < 2 ^ 64) : tr n = tr (n / 2) + 1 := by
  unfold tr
  rw [← trF_big 64 65 n h0 h' (by omega), trF, if_neg (by omega)]

/-- From one number to the next the ones change by the trail. -/
theorem ones_pred : ∀ (i n : Nat), 0 < n → n < 2 ^ i → onesF i (n - 1) + 1 = onesF i n + trF i n
  | 0, n, h, h' => by simp at h'; omega
  | i + 1, n, h, h' => by
    rw [onesF, onesF, trF]
    by_cases e : n % 2 = 1
    · rw [if_pos e]
      have e1 : (n - 1) % 2 = 0 := by omega
      have e2 : (n - 1) / 2 = n / 2 := by omega
      rw [e1, e2]; omega
    · rw [if_neg e]
      have e1 : (n - 1) % 2 = 1 := by omega
      have e2 : (n - 1) / 2 = n / 2 - 1 := by omega
      have := ones_pred i (n / 2) (by omega) (by rw [Nat.pow_succ] at h'; omega)
      rw [e1, e2]; omega

/-! ### with Int -/
open Go.RowKit in
theorem shr_cast (n i : Nat) : ((n : Int) / 2 ^ min ((i : Int)).toNat 64) = ((n / 2 ^ min i 64 : Nat) : Int) := by
  rw [Int.toNat_natCast]; simp
theorem wf_u64 {n : Int} (h : (Lit.int .u64 n).wf = true) : ∃ m : Nat, n = m ∧ m < 2 ^ 64 := by
  have h1 : 0 ≤ n ∧ n < 18446744073709551616 := by
    simp [Lit.wf, IntKind.min, IntKind.max, IntKind.bits, IntKind.signed] at h
    omega
  exact ⟨n.toNat, by omega, by omega⟩
theorem wf_i64 {n : Int} (h : (Lit.int .i64 n).wf = true) : -9223372036854775808 ≤ n ∧ n ≤ 9223372036854775807 := by
  simp [Lit.wf, IntKind.min, IntKind.max, IntKind.bits, IntKind.signed] at h
  omega
theorem wrap_u64_cast (n : Nat) (h : n < 2 ^ 64) : IntKind.u64.wrap (n : Int) = n := by
  simp [IntKind.wrap, IntKind.bits, IntKind.signed]; omega
theorem wrap_u64_in (n : Int) (h0 : 0 ≤ n) (h : n ≤ 18446744073709551615) : IntKind.u64.wrap n = n := by
  simp [IntKind.wrap, IntKind.bits, IntKind.signed]; omega
theorem wrap_u64_is (n : Int) : IntKind.u64.wrap n = n % 18446744073709551616 := by
  simp [IntKind.wrap, IntKind.bits, IntKind.signed]
theorem wrap64_in (n : Int) (h0 : -9223372036854775808 ≤ n) (h : n ≤ 9223372036854775807) : Go.RowKit.wrap64 n = n := by
  unfold Go.RowKit.wrap64; omega

end Go.Proofs.YtcghicmdphfodaaDoor.MB
