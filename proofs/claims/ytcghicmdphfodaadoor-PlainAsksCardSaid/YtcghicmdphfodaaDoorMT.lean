/- Trees of digests over a list: a block's items, its digest, the peaks of a list. No condition, no program. -/
import Derived.Test.YtcghicmdphfodaaDoorMH
import Derived.Test.YtcghicmdphfodaaDoorMP
set_option linter.unusedVariables false
set_option linter.unusedSimpArgs false
namespace Go.Proofs.YtcghicmdphfodaaDoor.MT
open Go.Proofs.YtcghicmdphfodaaDoor.MB Go.Proofs.YtcghicmdphfodaaDoor.MH
/-- The digest of 2^h items. -/
def tr (k : Int) : Nat → List ByteArray → ByteArray
  | 0, l => lf k (l.headD ByteArray.empty)
  | h + 1, l => nd k (tr k h (l.take (2 ^ h))) (tr k h (l.drop (2 ^ h)))
theorem tr_size (k : Int) (h : Nat) (l : List ByteArray) : (tr k h l).size = hK k := by cases h <;> exact dig_size _ _
/-- A block's items. -/
def sl (l : List ByteArray) (h k : Nat) : List ByteArray := (l.drop (k * 2 ^ h)).take (2 ^ h)
theorem sl_len (l : List ByteArray) (h k : Nat) (hl : (k + 1) * 2 ^ h ≤ l.length) : (sl l h k).length = 2 ^ h := by
  have : (k + 1) * 2 ^ h = k * 2 ^ h + 2 ^ h := by rw [Nat.add_mul, Nat.one_mul]
  unfold sl; rw [List.length_take, List.length_drop]; omega
theorem sl_left (l : List ByteArray) (h k : Nat) : (sl l (h + 1) k).take (2 ^ h) = sl l h (2 * k) := by
  unfold sl
  have ep : 2 ^ (h + 1) = 2 * 2 ^ h := by rw [Nat.pow_succ, Nat.mul_comm]
  rw [List.take_take, Nat.min_eq_left (by omega), ep, show 2 * k * 2 ^ h = k * (2 * 2 ^ h) from by rw [Nat.mul_comm 2 k, Nat.mul_assoc]]
theorem sl_right (l : List ByteArray) (h k : Nat) : (sl l (h + 1) k).drop (2 ^ h) = sl l h (2 * k + 1) := by
  unfold sl
  have ep : 2 ^ (h + 1) = 2 * 2 ^ h := by rw [Nat.pow_succ, Nat.mul_comm]
  have e2 : (2 * k + 1) * 2 ^ h = k * (2 * 2 ^ h) + 2 ^ h := by rw [Nat.add_mul, Nat.one_mul, Nat.mul_comm 2 k, Nat.mul_assoc]
  rw [List.drop_take, List.drop_drop, ep, e2]
  congr 1; omega
theorem sl_cut (l : List ByteArray) (h k : Nat) : (l.take ((k + 1) * 2 ^ h)).drop (k * 2 ^ h) = sl l h k := by
  have : (k + 1) * 2 ^ h = k * 2 ^ h + 2 ^ h := by rw [Nat.add_mul, Nat.one_mul]
  unfold sl; rw [List.drop_take]; generalize 2 ^ h = p at *; generalize k * p = a at *; congr 1; omega
theorem sl_take (l : List ByteArray) (m h k : Nat) (hm : (k + 1) * 2 ^ h ≤ m) : sl (l.take m) h k = sl l h k := by
  have : (k + 1) * 2 ^ h = k * 2 ^ h + 2 ^ h := by rw [Nat.add_mul, Nat.one_mul]
  unfold sl; rw [List.drop_take, List.take_take]; generalize 2 ^ h = p at *; generalize k * p = a at *; congr 1; omega
theorem sl_append (l m : List ByteArray) (h k : Nat) (hm : (k + 1) * 2 ^ h ≤ l.length) : sl (l ++ m) h k = sl l h k := by
  have e : (k + 1) * 2 ^ h = k * 2 ^ h + 2 ^ h := by rw [Nat.add_mul, Nat.one_mul]
  unfold sl; generalize 2 ^ h = p at *; generalize k * p = a at *; rw [List.drop_append_of_le_length (by omega), List.take_append_of_le_length (by rw [List.length_drop]; omega)]
theorem sl_leaf (l : List ByteArray) (i : Nat) (hi : i < l.length) : sl l 0 i = [l[i]] := by
  unfold sl; rw [Nat.pow_zero, Nat.mul_one, List.drop_eq_getElem_cons hi]; rfl
/-- A block's digest. -/
def trB (k : Int) (l : List ByteArray) (b : Nat × Nat) : ByteArray := tr k b.1 (sl l b.1 b.2)
theorem trB_size (k : Int) (l : List ByteArray) (b : Nat × Nat) : (trB k l b).size = hK k := tr_size _ _ _
theorem trB_node (k : Int) (l : List ByteArray) (h i : Nat) : trB k l (h + 1, i) = nd k (trB k l (h, 2 * i)) (trB k l (h, 2 * i + 1)) := by
  unfold trB; rw [tr, sl_left, sl_right]
theorem trB_leaf (k : Int) (l : List ByteArray) (i : Nat) (hi : i < l.length) : trB k l (0, i) = lf k l[i] := by
  unfold trB; simp only []; rw [sl_leaf l i hi]; rfl
/-- The peaks of a list's first n. -/
def pkL (k : Int) (l : List ByteArray) (n d : Nat) : List ByteArray := (mtS n d).map (trB k l)
def pks (k : Int) (l : List ByteArray) : List ByteArray := pkL k l l.length 41
theorem pkL_len (k : Int) (l : List ByteArray) (n d : Nat) : (pkL k l n d).length ≤ d := by unfold pkL; rw [List.length_map]; exact mtS_le n d
theorem pkL_size (k : Int) (l : List ByteArray) (n d : Nat) : ∀ s ∈ pkL k l n d, s.size ≤ 32 := by
  intro s hs
  obtain ⟨b, _, rfl⟩ := List.mem_map.1 hs
  rw [trB_size]; exact (hK_in k).2
theorem pkL_one (k : Int) (l : List ByteArray) (n d : Nat) (h : bit n d = 1) : pkL k l n (d + 1) = trB k l (d, n / 2 ^ d - 1) :: pkL k l n d := by
  unfold pkL; rw [mtS, if_pos h]; rfl
theorem pkL_no (k : Int) (l : List ByteArray) (n d : Nat) (h : bit n d = 0) : pkL k l n (d + 1) = pkL k l n d := by unfold pkL; rw [mtS, if_neg (by omega)]; rfl
theorem pkL_none (k : Int) (l : List ByteArray) (n d : Nat) (h : n % 2 ^ d = 0) : pkL k l n d = [] := by unfold pkL; rw [mtS_none n d h]; rfl
/-- What the digits of n from d on come to. -/
theorem hi_step (n d : Nat) : n / 2 ^ d * 2 ^ d = n / 2 ^ (d + 1) * 2 ^ (d + 1) + bit n d * 2 ^ d := by
  rw [half_up n d, Nat.pow_succ, Nat.add_mul, Nat.mul_comm (2 ^ d) 2, ← Nat.mul_assoc, Nat.mul_comm 2 (n / (2 * 2 ^ d)), Nat.mul_assoc]
theorem hi_one (n d : Nat) (h : bit n d = 1) : n / 2 ^ (d + 1) * 2 ^ (d + 1) = (n / 2 ^ d - 1) * 2 ^ d := by
  have h1 := half_up n d
  rw [show n / 2 ^ d - 1 = 2 * (n / 2 ^ (d + 1)) from by omega, Nat.pow_succ, Nat.mul_comm (2 ^ d) 2, ← Nat.mul_assoc, Nat.mul_comm 2 (n / (2 * 2 ^ d))]
theorem lo_rest (n d : Nat) : n / 2 ^ d * 2 ^ d + n % 2 ^ d = n := by rw [Nat.mul_comm]; exact Nat.div_add_mod n _
end Go.Proofs.YtcghicmdphfodaaDoor.MT
