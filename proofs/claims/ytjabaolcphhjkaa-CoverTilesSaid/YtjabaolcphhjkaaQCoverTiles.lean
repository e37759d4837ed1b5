/- What the printed functions of CoverTiles come to, function by function. No condition beyond those that each theorem names. -/
import Derived.Test.YtjabaolcphhjkaaPCoverTilesx
import Derived.Test.YtjabaolcphhjkaaMB
import Derived.Test.YtjabaolcphhjkaaMP
import Derived.Test.YtjabaolcphhjkaaMS
set_option linter.unusedVariables false
set_option linter.unusedSimpArgs false
namespace Go.Proofs.Ytjabaolcphhjkaa.PCoverTiles
open Go.RowKit Go.Proofs.Ytjabaolcphhjkaa.MB Go.Proofs.YtjabaolcphhjkaaW.PrintWords Go.Proofs.YtjabaolcphhjkaaW.PrintLast Go.Proofs.YtjabaolcphhjkaaW.PrintMore

theorem bits1 (n i : Nat) (hn : n < 2 ^ 64) (hi : i ≤ 64) : Go.bits .and .u64 (shr .u64 (n : Int) (i : Int)) 1 = (bit n i : Int) := by
  have e : shr .u64 (n : Int) (i : Int) = ((n / 2 ^ i : Nat) : Int) := by
    unfold shr
    have e1 : min ((i : Int)).toNat IntKind.u64.bits = i := by simp [IntKind.bits]; omega
    rw [e1]; simp
  have hle : n / 2 ^ i ≤ n := Nat.div_le_self _ _
  rw [e]
  unfold bit
  generalize n / 2 ^ i = q at *
  rw [and_one_u64 _ (by omega) (by omega)]; omega
theorem num_Ones.run (n : Nat) (hn : n < 2 ^ 64) : ∀ (d k i : Nat), i + d = 64 → d < k → num_Ones.l0 k n (onesF i n : Nat) i = some (ones n : Int) := by
  intro d
  induction d with
  | zero =>
    intro k i hi hk
    obtain ⟨k, rfl⟩ : ∃ m, k = m + 1 := ⟨k - 1, by omega⟩
    have : i = 64 := by omega
    subst this
    simp only [num_Ones.l0]; rw [if_neg (by omega)]; rfl
  | succ d ih =>
    intro k i hi hk
    obtain ⟨k, rfl⟩ : ∃ m, k = m + 1 := ⟨k - 1, by omega⟩
    have hb := bit_lt n i
    have hl := onesF_le i n
    simp only [num_Ones.l0]; rw [if_pos (by omega), if_pos (by omega), bits1 n i hn (by omega), wrap64_in (bit n i : Int) (by omega) (by omega), wrap64_in _ (by omega) (by omega), wrap64_in _ (by omega) (by omega)]
    have h := ih k (i + 1) (by omega) (by omega)
    rw [onesF_snoc] at h
    exact h
theorem num_Ones.is (n k : Nat) (hn : n < 2 ^ 64) (hk : 65 ≤ k) : num_Ones.f k n = some (ones n : Int) := num_Ones.run n hn 64 k 0 (by omega) (by omega)
theorem lg_step (n i : Nat) : lg (n % 2 ^ (i + 1)) = if bit n i = 1 then (i : Int) else lg (n % 2 ^ i) := by
  have hb := bit_lt n i
  have hm := mod_succ n i
  have hl := Nat.mod_lt n (two_pow_pos i)
  split
  · rename_i h
    rw [h] at hm
    rw [hm]
    generalize n % 2 ^ i = q at *
    exact lg_eq (by omega) (by rw [Nat.pow_succ]; omega)
  · rename_i h
    have : bit n i = 0 := by omega
    rw [this] at hm; rw [hm]; simp
theorem num_Log.run (n : Nat) (hn : n < 2 ^ 64) : ∀ (d k i : Nat), i + d = 64 → d < k → num_Log.l0 k n (lg (n % 2 ^ i)) i = some (lg n) := by
  intro d
  induction d with
  | zero =>
    intro k i hi hk
    obtain ⟨k, rfl⟩ : ∃ m, k = m + 1 := ⟨k - 1, by omega⟩
    have : i = 64 := by omega
    subst this
    simp only [num_Log.l0]; rw [if_neg (by omega), Nat.mod_eq_of_lt hn]
  | succ d ih =>
    intro k i hi hk
    obtain ⟨k, rfl⟩ : ∃ m, k = m + 1 := ⟨k - 1, by omega⟩
    have h := ih k (i + 1) (by omega) (by omega)
    rw [lg_step] at h
    simp only [num_Log.l0]; rw [if_pos (by omega), if_pos (by omega), bits1 n i hn (by omega), wrap64_in _ (by omega) (by omega)]
    by_cases e : bit n i = 1
    · rw [if_pos e] at h; rw [if_pos (by omega)]; exact h
    · rw [if_neg e] at h; rw [if_neg (by omega)]; exact h
theorem num_Log.is (n k : Nat) (hn : n < 2 ^ 64) (hk : 65 ≤ k) : num_Log.f k n = some (lg n) := by
  have h := num_Log.run n hn 64 k 0 (by omega) (by omega)
  simpa [num_Log.f, Nat.mod_one, lg_zero] using h

end Go.Proofs.Ytjabaolcphhjkaa.PCoverTiles
