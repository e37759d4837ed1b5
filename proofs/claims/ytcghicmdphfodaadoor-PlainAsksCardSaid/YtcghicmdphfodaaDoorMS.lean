/- Shifts by a variable count, as the printed functions spell them, at natural numbers. No condition beyond those that each theorem names. -/
import Derived.Test.YtcghicmdphfodaaDoorWMore
import Derived.Test.YtcghicmdphfodaaDoorMP
import Derived.Laws.Bits64
namespace Go.Proofs.YtcghicmdphfodaaDoor.MB
open Go.RowKit Go.Proofs.YtcghicmdphfodaaDoorW.PrintWords

theorem shlc (x h : Nat) (hh : h ≤ 64) (hx : x * 2 ^ h < 2 ^ 64) : shl .u64 (x : Int) (h : Int) = ((x * 2 ^ h : Nat) : Int) := by
  unfold shl
  have e1 : min ((h : Int)).toNat IntKind.u64.bits = h := by simp [IntKind.bits]; omega
  rw [e1]
  have e2 : (x : Int) * 2 ^ h = ((x * 2 ^ h : Nat) : Int) := by simp
  rw [e2, wrap_u64_cast _ hx]
theorem shrc (x h : Nat) (hh : h ≤ 64) : shr .u64 (x : Int) (h : Int) = ((x / 2 ^ h : Nat) : Int) := by
  unfold shr
  have e1 : min ((h : Int)).toNat IntKind.u64.bits = h := by simp [IntKind.bits]; omega
  rw [e1]; simp
theorem xor_one (k : Nat) : k ^^^ 1 = if k % 2 = 0 then k + 1 else k - 1 := by
  have h1 : (k ^^^ 1) / 2 = k / 2 := by rw [Nat.xor_div_two]; simp
  have h2 : (k ^^^ 1) % 2 = 1 ↔ ¬ (k % 2 = 1 ↔ 1 % 2 = 1) := Nat.xor_mod_two_eq_one
  split <;> omega
theorem xor1_u64 (k : Nat) (hk : k < 2 ^ 64) : Go.bits .xor .u64 (k : Int) 1 = (((if k % 2 = 0 then k + 1 else k - 1) : Nat) : Int) := by
  have := bits_xor_u64_nat k 1 (by omega) (by omega)
  rw [xor_one] at this; exact this
theorem rd_ints (l : List Nat) (i : Nat) (h : i < l.length) : rd (ints l) (i : Int) = (l[i] : Int) := by
  unfold rd ints
  rw [Int.toNat_natCast, List.getD_eq_getElem?_getD, List.getElem?_map, List.getElem?_eq_getElem h]
  rfl
theorem rd_mid (pre : List Int) (x : Int) (rest : List Int) : rd (pre ++ x :: rest) (pre.length : Int) = x := by
  unfold rd
  rw [Int.toNat_natCast, List.getD_eq_getElem?_getD, List.getElem?_append_right (Nat.le_refl _), Nat.sub_self]
  rfl

end Go.Proofs.YtcghicmdphfodaaDoor.MB
