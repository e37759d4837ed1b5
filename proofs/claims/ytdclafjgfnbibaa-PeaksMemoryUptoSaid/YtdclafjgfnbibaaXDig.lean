/- The digest out of any text: the printed function, its walk (a program of this session wrote both over the translation), and what it comes to. No condition beyond those that each theorem names. -/
import Derived.Test.YtdclafjgfnbibaaPPeaksRefusedx
import Derived.Test.YtdclafjgfnbibaaMB
import Derived.Test.YtdclafjgfnbibaaMH
namespace Go.Proofs.Ytdclafjgfnbibaa.PPeaksRefused
open Go.RowKit Go.Proofs.YtdclafjgfnbibaaW.PrintWords Go.Proofs.YtdclafjgfnbibaaW.PrintLast Go.Proofs.YtdclafjgfnbibaaW.PrintMore
attribute [local go_sem] max2_int min2_int max_two min_two max_three min_three max_four min_four
set_option linter.unusedVariables false
set_option linter.unusedSimpArgs false
/-- The bytes of the digest behind i rounds. -/
def dgL (s : ByteArray) (k : Nat) : Nat → List Int
  | 0 => List.replicate k 0
  | i + 1 => (dgL s k i).set i (bt s i)
theorem dgL_len (s : ByteArray) (k : Nat) : ∀ i, (dgL s k i).length = k
  | 0 => by simp [dgL]
  | i + 1 => by rw [dgL, List.length_set, dgL_len s k i]
/-- A text of just k bytes, out of any. -/
def dgt (s : ByteArray) (k : Nat) : ByteArray := strOfNums (dgL s k (min k s.size))
theorem dgt_size (s : ByteArray) (k : Nat) : (dgt s k).size = k := by
  unfold dgt; rw [MH.str_size, dgL_len]
theorem massiflaw09_digest.run (s : ByteArray) (k : Nat) (hk : k ≤ 1000) : ∀ (d i K : Nat), i + d = min k s.size → d < K → massiflaw09_digest.l0 K s (k : Int) (dgL s k i) (i : Int) = some (dgt s k) := by
  intro d
  induction d with
  | zero =>
    intro i K hi hK
    obtain ⟨K, rfl⟩ : ∃ m, K = m + 1 := ⟨K - 1, by omega⟩
    have hi' : i = min k s.size := by omega
    rw [massiflaw09_digest.l0]
    by_cases c : (i : Int) < (k : Int)
    · rw [if_pos c, if_neg (by omega), hi']; rfl
    · rw [if_neg c, hi']; rfl
  | succ d ih =>
    intro i K hi hK
    obtain ⟨K, rfl⟩ : ∃ m, K = m + 1 := ⟨K - 1, by omega⟩
    rw [massiflaw09_digest.l0, if_pos (by omega), if_pos (by omega), if_pos (by omega), if_pos (by rw [dgL_len]; omega), MB.wrap64_in _ (by omega) (by omega), Int.toNat_natCast]
    exact ih (i + 1) K (by omega) (by omega)
theorem massiflaw09_digest.is (s : ByteArray) (k K : Nat) (hk : k ≤ 1000) (hK : 1001 ≤ K) : massiflaw09_digest.f K s (k : Int) = some (dgt s k) := by
  unfold massiflaw09_digest.f
  rw [if_pos (by omega), if_pos (by omega), Int.toNat_natCast]
  exact massiflaw09_digest.run s k hk (min k s.size) 0 K (by omega) (by omega)
end Go.Proofs.Ytdclafjgfnbibaa.PPeaksRefused
