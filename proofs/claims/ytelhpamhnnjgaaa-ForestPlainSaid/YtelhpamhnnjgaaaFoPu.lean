/- What plain answers, in the forest's words. No condition, no program but plain's printed functions. -/
import Derived.Test.YtelhpamhnnjgaaaFo4
set_option linter.unusedVariables false
set_option linter.unusedSimpArgs false
namespace Go.Proofs.Ytelhpamhnnjgaaa.Fo
open Go.RowKit Go.Proofs.Ytelhpamhnnjgaaa.MB Go.Proofs.Ytelhpamhnnjgaaa.MH Go.Proofs.Ytelhpamhnnjgaaa.Pk Go.Proofs.YtelhpamhnnjgaaaW.PrintWords Go.Proofs.Ytelhpamhnnjgaaa.PForestPlain
theorem rtD_take (k : Int) (l : List ByteArray) (m n : Nat) (hn : n ≤ m) : rtD k (l.take m) n = rtD k l n := by
  unfold rtD
  congr 1
  refine List.map_congr_left fun b hb => ?_
  have hf := mtS_fit n 41 b hb
  unfold MT.trB
  rw [MT.sl_take l m b.1 b.2 (Nat.le_trans hf hn)]
theorem plain_root (K : Nat) (k : Int) (l : List ByteArray) (n : Nat) (hk : 1 ≤ k ∧ k ≤ 32) (hnl : n ≤ l.length) (hn : l.length ≤ 2 ^ 40) (hs : ∀ s ∈ l, s.size ≤ 140737488351232) (hK : 4200 ≤ K) :
    plain_Root.f K k l (n : Int) = some ((n : Int), rtD k l n, 0) := by
  rw [plain_Root.is K k l n hk hnl hn hs hK]
  have e : MT.pks k (l.take n) = MT.pkL k (l.take n) n 41 := by unfold MT.pks; rw [List.length_take, Nat.min_eq_left hnl]
  rw [e, ← rtD_take k l n n (Nat.le_refl _)]
  rfl
theorem plain_tree (K : Nat) (k : Int) (l : List ByteArray) (h i : Nat) (hh : h ≤ 40) (hn : l.length ≤ 2 ^ 40) (hs : ∀ s ∈ l, s.size ≤ 140737488351232) (hK : 42 ≤ K) :
    plain_Tree.f K k l (h : Int) (i : Int) = some ((fo k l (h : Int) (i : Int)).getD ⟨#[]⟩, (fo k l (h : Int) (i : Int)).isSome) := by
  by_cases c : (i + 1) * 2 ^ h ≤ l.length
  · rw [plain_Tree.is K k l h i hh c hn hs hK, fo_in k l h i c]; rfl
  · rw [fo_out k l h i c]
    have hp := two_pow_pos h
    have hq : ¬ i + 1 ≤ l.length / 2 ^ h := fun hx => c ((Nat.le_div_iff_mul_le hp).1 hx)
    unfold plain_Tree.f
    rw [if_neg (by omega), if_neg (by omega), if_pos (by omega), IntWalk.u64_in _ (by omega), shrc l.length h (by omega), if_pos (by omega)]
    rfl
end Go.Proofs.Ytelhpamhnnjgaaa.Fo
