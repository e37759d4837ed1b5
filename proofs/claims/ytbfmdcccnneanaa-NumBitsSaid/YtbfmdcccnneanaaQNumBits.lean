/- What the printed functions of NumBits come to, function by function. No condition beyond those that each theorem names. -/
import Derived.Test.YtbfmdcccnneanaaPNumBitsx
import Derived.Test.YtbfmdcccnneanaaMB

set_option linter.unusedVariables false
set_option linter.unusedSimpArgs false
namespace Go.Proofs.Ytbfmdcccnneanaa.PNumBits
open Go.RowKit Go.Proofs.Ytbfmdcccnneanaa.MB Go.Proofs.YtbfmdcccnneanaaW.PrintWords Go.Proofs.YtbfmdcccnneanaaW.PrintLast Go.Proofs.YtbfmdcccnneanaaW.PrintMore

theorem bits1 (n i : Nat) (hn : n < 2 ^ 64) (hi : i ≤ 64) : Go.bits .and .u64 (shr .u64 (n : Int) (i : Int)) 1 = (bit n i : Int) := by
  have e : shr .u64 (n : Int) (i : Int) = ((n / 2 ^ i : Nat) : Int) := by
    unfold shr
    have e1 : min ((i : Int)).toNat IntKind.u64.bits = i := by simp [IntKind.bits]; omega
    rw [e1]; simp
  have hle : n / 2 ^ i ≤ n := Nat.div_le_self _ _
  rw [e]
  unfold bit
  generalize n / 2 ^ i = q at *
  rw [and_one_u64 _ (by omega) (by omega)]; omega
theorem num_Ones.run (n : Nat) (hn : n < 2 ^ 64) : ∀ (d k i : Nat), i + d = 64 → d < k → num_Ones.l0 k n (onesF i n : Nat) i = some (ones n : Int) := by
  intro d
  induction d with
  | zero =>
    intro k i hi hk
    obtain ⟨k, rfl⟩ : ∃ m, k = m + 1 := ⟨k - 1, by omega⟩
    have : i = 64 := by omega
    subst this
    simp only [num_Ones.l0]; rw [if_neg (by omega)]; rfl
  | succ d ih =>
    intro k i hi hk
    obtain ⟨k, rfl⟩ : ∃ m, k = m + 1 := ⟨k - 1, by omega⟩
    have hb := bit_lt n i
    have hl := onesF_le i n
    simp only [num_Ones.l0]; rw [if_pos (by omega), if_pos (by omega), bits1 n i hn (by omega), wrap64_in (bit n i : Int) (by omega) (by omega), wrap64_in _ (by omega) (by omega), wrap64_in _ (by omega) (by omega)]
    have h := ih k (i + 1) (by omega) (by omega)
    rw [onesF_snoc] at h
    exact h
theorem num_Ones.is (n k : Nat) (hn : n < 2 ^ 64) (hk : 65 ≤ k) : num_Ones.f k n = some (ones n : Int) := num_Ones.run n hn 64 k 0 (by omega) (by omega)
theorem lg_step (n i : Nat) : lg (n % 2 ^ (i + 1)) = if bit n i = 1 then (i : Int) else lg (n % 2 ^ i) := by
  have hb := bit_lt n i
  have hm := mod_succ n i
  have hl := Nat.mod_lt n (two_pow_pos i)
  split
  · rename_i h
    rw [h] at hm
    rw [hm]
    generalize n % 2 ^ i = q at *
    exact lg_eq (by omega) (by rw [Nat.pow_succ]; omega)
  · rename_i h
    have : bit n i = 0 := by omega
    rw [this] at hm; rw [hm]; simp
theorem num_Log.run (n : Nat) (hn : n < 2 ^ 64) : ∀ (d k i : Nat), i + d = 64 → d < k → num_Log.l0 k n (lg (n % 2 ^ i)) i = some (lg n) := by
  intro d
  induction d with
  | zero =>
    intro k i hi hk
    obtain ⟨k, rfl⟩ : ∃ m, k = m + 1 := ⟨k - 1, by omega⟩
    have : i = 64 := by omega
    subst this
    simp only [num_Log.l0]; rw [if_neg (by omega), Nat.mod_eq_of_lt hn]
  | succ d ih =>
    intro k i hi hk
    obtain ⟨k, rfl⟩ : ∃ m, k = m + 1 := ⟨k - 1, by omega⟩
    have h := ih k (i + 1) (by omega) (by omega)
    rw [lg_step] at h
    simp only [num_Log.l0]; rw [if_pos (by omega), if_pos (by omega), bits1 n i hn (by omega), wrap64_in _ (by omega) (by omega)]
    by_cases e : bit n i = 1
    · rw [if_pos e] at h; rw [if_pos (by omega)]; exact h
    · rw [if_neg e] at h; rw [if_neg (by omega)]; exact h
theorem num_Log.is (n k : Nat) (hn : n < 2 ^ 64) (hk : 65 ≤ k) : num_Log.f k n = some (lg n) := by
  have h := num_Log.run n hn 64 k 0 (by omega) (by omega)
  simpa [num_Log.f, Nat.mod_one, lg_zero] using h
/-- The least power that is not below n. -/
def ceil (n : Nat) : Int := if n < 2 then 0 else lg (n - 1) + 1
theorem num_Ceil.is (n k : Nat) (hn : n < 2 ^ 64) (hk : 65 ≤ k) : num_Ceil.f k n = some (ceil n) := by
  unfold num_Ceil.f ceil
  by_cases h : n < 2
  · rw [if_pos (by omega), if_pos h]
  · rw [if_neg (by omega), if_neg h]
    have e : IntKind.u64.wrap ((n : Int) - 1) = ((n - 1 : Nat) : Int) := by rw [wrap_u64_in _ (by omega) (by omega)]; omega
    rw [e, num_Log.is (n - 1) k (by omega) hk]
    have := lg_lt (n - 1) 64 (by omega)
    have := lg_ge (n - 1)
    simp only [Option.bind_some]
    rw [wrap64_in _ (by omega) (by omega)]
theorem num_Trail.run (n : Nat) (hn : n < 2 ^ 64) : ∀ (d k i : Nat), i + d = 64 → d < k → n % 2 ^ i = 0 → num_Trail.l0 k n i = some (tr n : Int) := by
  intro d
  induction d with
  | zero =>
    intro k i hi hk h0
    obtain ⟨k, rfl⟩ : ∃ m, k = m + 1 := ⟨k - 1, by omega⟩
    have : i = 64 := by omega
    subst this
    rw [Nat.mod_eq_of_lt hn] at h0; subst h0
    simp only [num_Trail.l0]; rw [if_neg (by omega)]; rfl
  | succ d ih =>
    intro k i hi hk h0
    obtain ⟨k, rfl⟩ : ∃ m, k = m + 1 := ⟨k - 1, by omega⟩
    have hb := bit_lt n i
    have hm := mod_succ n i
    simp only [num_Trail.l0]; rw [if_pos (by omega), if_pos (by omega), bits1 n i hn (by omega), wrap64_in _ (by omega) (by omega)]
    by_cases e : bit n i = 1
    · rw [if_pos (by omega), tr_eq hn h0 e]
    · rw [if_neg (by omega)]
      have h1 : bit n i = 0 := by omega
      rw [h1] at hm
      exact ih k (i + 1) (by omega) (by omega) (by omega)
theorem num_Trail.is (n k : Nat) (hn : n < 2 ^ 64) (hk : 65 ≤ k) : num_Trail.f k n = some (tr n : Int) :=
  num_Trail.run n hn 64 k 0 (by omega) (by omega) (by simp [Nat.mod_one])
theorem shl1 (h : Nat) (hh : h < 64) : shl .u64 1 (h : Int) = ((2 ^ h : Nat) : Int) := by
  unfold shl
  have e1 : min ((h : Int)).toNat IntKind.u64.bits = h := by simp [IntKind.bits]; omega
  rw [e1, Int.one_mul]
  have := Nat.pow_lt_pow_right (a := 2) (by omega) hh
  have e2 : (2 : Int) ^ h = ((2 ^ h : Nat) : Int) := by simp
  rw [e2, wrap_u64_cast _ this]
theorem num_Pow.is (h : Nat) (hh : h < 64) : num_Pow.f h = some (((2 ^ h : Nat) : Int), true) := by
  unfold num_Pow.f
  rw [if_neg (by omega), if_neg (by omega), if_pos (by omega), shl1 h hh]
theorem num_Pow.no (h : Int) (hh : h < 0 ∨ 63 < h) : num_Pow.f h = some (0, false) := by
  unfold num_Pow.f
  by_cases e : h < 0
  · rw [if_pos e]
  · rw [if_neg e, if_pos (by omega)]
theorem num_Add.is (a b : Nat) (ha : a < 2 ^ 64) (hb : b < 2 ^ 64) : num_Add.f a b = if a + b < 2 ^ 64 then some (((a + b : Nat) : Int), true) else some (0, false) := by
  unfold num_Add.f
  rw [wrap_u64_is]
  by_cases h : a + b < 2 ^ 64
  · rw [if_pos h, if_pos (by omega)]
    have : (((a : Int) + b) % 18446744073709551616) = ((a + b : Nat) : Int) := by omega
    rw [this]
  · rw [if_neg h, if_neg (by omega)]
theorem massiflaw02_alive.is (k : Nat) (hk : 65 ≤ k) : massiflaw02_alive.f k = some true := by
  unfold massiflaw02_alive.f
  have p := num_Pow.is 40 (by omega)
  have a1 := num_Add.is 9223372036854775808 9223372036854775808 (by omega) (by omega)
  have a2 := num_Add.is 18446744073709551615 0 (by omega) (by omega)
  have o := num_Ones.is 13 k (by omega) hk
  have l1 := num_Log.is 13 k (by omega) hk
  have l2 := num_Log.is 0 k (by omega) hk
  have c1 := num_Ceil.is 13 k (by omega) hk
  have c2 := num_Ceil.is 8 k (by omega) hk
  have t1 := num_Trail.is 12 k (by omega) hk
  have t2 := num_Trail.is 0 k (by omega) hk
  rw [if_neg (by omega)] at a1
  rw [if_pos (by omega)] at a2
  have e1 : ones 13 = 3 := by decide
  have e2 : lg 13 = 3 := lg_eq (m := 3) (by omega) (by omega)
  have e3 : lg 0 = -1 := rfl
  have e4 : ceil 13 = 4 := by unfold ceil; rw [if_neg (by omega), lg_eq (m := 3) (by omega) (by omega)]; rfl
  have e5 : ceil 8 = 3 := by unfold ceil; rw [if_neg (by omega), lg_eq (m := 2) (by omega) (by omega)]; rfl
  have e6 : tr 12 = 2 := by decide
  have e7 : tr 0 = 64 := by decide
  rw [e1] at o; rw [e2] at l1; rw [e3] at l2; rw [e4] at c1; rw [e5] at c2; rw [e6] at t1; rw [e7] at t2
  have p' : num_Pow.f 40 = some (1099511627776, true) := p
  have a1' : num_Add.f 9223372036854775808 9223372036854775808 = some (0, false) := a1
  have a2' : num_Add.f 18446744073709551615 0 = some (18446744073709551615, true) := a2
  have o' : num_Ones.f k 13 = some 3 := o
  have l1' : num_Log.f k 13 = some 3 := l1
  have l2' : num_Log.f k 0 = some (-1) := l2
  have c1' : num_Ceil.f k 13 = some 4 := c1
  have c2' : num_Ceil.f k 8 = some 3 := c2
  have t1' : num_Trail.f k 12 = some 2 := t1
  have t2' : num_Trail.f k 0 = some 64 := t2
  rw [p', a1', a2', o', l1', l2', c1', c2', t1', t2']
  simp

end Go.Proofs.Ytbfmdcccnneanaa.PNumBits
