/- Digests over texts: what is hashed, what peaks are bagged to. No condition, no program. -/
import Derived.Test.YtcghicmdphfodaaDoorSha3
import Derived.Test.YtcghicmdphfodaaDoorWLast
set_option linter.unusedVariables false
set_option linter.unusedSimpArgs false
namespace Go.Proofs.YtcghicmdphfodaaDoor.MH
open Go.RowKit Go.Proofs.YtcghicmdphfodaaDoorW.PrintWords Go.Proofs.YtcghicmdphfodaaDoorW.PrintLast
theorem str_size (l : List Int) : (strOfNums l).size = l.length := by unfold strOfNums; simp [ByteArray.size]
theorem sha_size (M : List Int) : (Sha.sha M).size = 32 := by unfold Sha.sha Sha.shaB; rw [str_size, Sha.outN_len]
/-- The nearest strength. -/
def hK (k : Int) : Nat := (mn (mx k 1) 32).toNat
theorem hK_in (k : Int) : 1 ≤ hK k ∧ hK k ≤ 32 := by unfold hK mn mx; split <;> split <;> omega
theorem hK_cast (k : Int) : mn (mx k 1) 32 = (hK k : Int) := by have := hK_in k; unfold hK at this ⊢; unfold mn mx at this ⊢; split <;> split <;> omega
theorem hK_of (k : Int) (h : 1 ≤ k ∧ k ≤ 32) : (hK k : Int) = k := by unfold hK mn mx; split <;> split <;> omega
/-- The digest of a text. -/
def dig (k : Int) (s : ByteArray) : ByteArray := (Sha.sha (Sha.bI s)).extract 0 (hK k)
theorem dig_size (k : Int) (s : ByteArray) : (dig k s).size = hK k := by
  unfold dig; rw [ByteArray.size_extract, sha_size]; have := (hK_in k).2; omega
def leafT (s : ByteArray) : ByteArray := strOfNums [0] ++ s
def nodeT (a b : ByteArray) : ByteArray := strOfNums [1] ++ a ++ b
def bagT (a b : ByteArray) : ByteArray := strOfNums [2] ++ a ++ b
def big (n : Int) : Nat → List Int
  | 0 => List.replicate 8 0
  | i + 1 => (big n i).set i (n / 2 ^ (56 - 8 * i) % 256)
theorem big_len (n : Int) : ∀ i, (big n i).length = 8
  | 0 => by simp [big]
  | i + 1 => by rw [big, List.length_set, big_len n i]
def rootT (n : Int) (d : ByteArray) : ByteArray := strOfNums [3] ++ strOfNums (big n 8) ++ d
def lf (k : Int) (s : ByteArray) : ByteArray := dig k (leafT s)
def nd (k : Int) (a b : ByteArray) : ByteArray := dig k (nodeT a b)
/-- What peaks are bagged to. -/
def bag (k : Int) : List ByteArray → ByteArray
  | [] => ⟨#[]⟩
  | x :: l => match l with
    | [] => x
    | _ :: _ => dig k (bagT x (bag k l))
theorem bag_one (k : Int) (x : ByteArray) : bag k [x] = x := by rw [bag]
theorem bag_two (k : Int) (x y : ByteArray) (l : List ByteArray) : bag k (x :: y :: l) = dig k (bagT x (bag k (y :: l))) := by rw [bag]
def rootD (k n : Int) (l : List ByteArray) : ByteArray := dig k (rootT n (bag k l))
theorem leafT_size (s : ByteArray) : (leafT s).size = 1 + s.size := by unfold leafT; rw [ByteArray.size_append, str_size]; rfl
theorem nodeT_size (a b : ByteArray) : (nodeT a b).size = 1 + a.size + b.size := by unfold nodeT; rw [ByteArray.size_append, ByteArray.size_append, str_size]; rfl
theorem bagT_size (a b : ByteArray) : (bagT a b).size = 1 + a.size + b.size := by unfold bagT; rw [ByteArray.size_append, ByteArray.size_append, str_size]; rfl
theorem rootT_size (n : Int) (d : ByteArray) : (rootT n d).size = 9 + d.size := by unfold rootT; rw [ByteArray.size_append, ByteArray.size_append, str_size, str_size, big_len]; rfl
theorem lf_size (k : Int) (s : ByteArray) : (lf k s).size = hK k := dig_size _ _
theorem nd_size (k : Int) (a b : ByteArray) : (nd k a b).size = hK k := dig_size _ _
/-- A bag is no longer than its longest peak, or a digest. -/
theorem bag_size (k : Int) (B : Nat) (hB : 32 ≤ B) : ∀ l : List ByteArray, (∀ s ∈ l, s.size ≤ B) → (bag k l).size ≤ B
  | [], _ => by rw [bag]; show 0 ≤ B; omega
  | [x], h => by rw [bag_one]; exact h x (List.mem_cons_self ..)
  | x :: y :: l, _ => by rw [bag_two, dig_size]; have := (hK_in k).2; omega
end Go.Proofs.YtcghicmdphfodaaDoor.MH
