/- The contract of hash.RootText: the root's text of a number and a digest. No condition beyond those that each theorem names. -/
import Derived.Test.YtcghicmdphfodaaDoorSha3
import Derived.Test.YtcghicmdphfodaaDoorPPlainAsksx0
import Derived.Test.YtcghicmdphfodaaDoorPPlainAsksx2
import Derived.Deep.RegionHeld3
set_option linter.unusedVariables false
set_option linter.unusedSimpArgs false
namespace Go.Proofs.YtcghicmdphfodaaDoor.PPlainAsks.RootW
open Go.RowKit Go.Proofs.YtcghicmdphfodaaDoorW.PrintWords Go.Proofs.YtcghicmdphfodaaDoorW.PrintLast Go.Proofs.YtcghicmdphfodaaDoorW.PrintMore Go.Proofs.YtcghicmdphfodaaDoor.PPlainAsks Go.Proofs.YtcghicmdphfodaaDoor.Sha
def big (n : Int) : Nat → List Int
  | 0 => List.replicate 8 0
  | i + 1 => (big n i).set i (n / 2 ^ (56 - 8 * i) % 256)
theorem big_len (n : Int) : ∀ i, (big n i).length = 8
  | 0 => by simp [big]
  | i + 1 => by rw [big, List.length_set, big_len n i]
theorem cut8 (tb : Nat) (W : World) : (Instr.sliceAt 75 (.pointer (some ⟨tb, 0, none⟩)) none none none).run Tryd.prog W = .ok (.slice (some ⟨tb, 0, none⟩) 8 8) W := by
  have hz : ∀ w, (sizeOf 5).run Tryd.prog w = .ok 1 w := fun w => by kernel_rfl
  simp only [Instr.sliceAt, Instr.sureAddr, Instr.sliceBounds, Sem.run_bind, run_underlying Tryd.underlying75, Result.andThen_ok, Sem.run_pure, Option.isSome_none, Bool.false_eq_true, if_false, hz, Nat.zero_mul, Nat.sub_zero]
  rfl
set_option maxHeartbeats 1000000 in
set_option maxRecDepth 100000 in
theorem root_calls (n : Int) (d r0 : ByteArray) (w : World) (h0 : hash_first.f 3 = some r0) (hs : r0.size + 8 + d.size ≤ 9223372036854775807) :
    Calls Tryd.prog 27 #[.int .u64 n, .string d] w fun e w' => e = .returned (.string (r0 ++ strOfNums (big n 8) ++ d)) ∧ Below w.heap.size w w' := by
  obtain ⟨r8, hr8⟩ : ∃ r : ByteArray, r = strOfNums (big n 8) := ⟨_, rfl⟩
  have hz8 : r8.size = 8 := by rw [hr8]; unfold strOfNums; simp [ByteArray.size, big_len]
  rw [← hr8]
  have HR8 := Aside0.mk (And.intro hr8 hz8)
  have H0 := Aside0.mk h0
  have HS := Aside0.mk hs
  clear h0 hs hr8 hz8
  go_enter Tryd.func27, Tryd.ntmps27
  go_wp2_with (refine wpList_alloc' rfl 75 rfl (bc (List.replicate 8 0)) (by kernel_rfl) ?_; intro w1 hw1; have HT1 := Aside0.mk (show w1.heap[w.heap.size]? = some (.cells (bc (List.replicate 8 0)) 75 (0, 0)) from by rw [hw1]; exact blk_new _ _); have HB1 := Aside0.mk (show Below w.heap.size w w1 from by rw [hw1]; exact below_alloc (Below.refl _ _) _); clear hw1)
  go_loopg [7] 8 (fun kq v7 w' => ∃ i : Nat, v7 = .int .i64 (i : Int) ∧ Aside0 (i + kq = 8) ∧ Aside0 (w'.heap[w.heap.size]? = some (.cells (bc (big n i)) 75 (0, 0))) ∧ Aside0 (Below w.heap.size w w'))
  case atStart => exact ⟨0, by rfl, ⟨by omega⟩, HT1, HB1⟩
  case round =>
    obtain ⟨i, rfl, HI, HT, HB⟩ := hrel
    cases gk with
    | zero =>
      have hlt : decide ((i : Int) < 8) = false := decide_eq_false (by have := HI.out; omega)
      have HT8 := Aside0.mk (show wr.heap[w.heap.size]? = some (.cells (bc (big n 8)) 75 (0, 0)) from by have e : i = 8 := (by have := HI.out; omega); rw [e] at HT; exact HT.out)
      have hsl := cut8 w.heap.size
      have hcv : ∀ W, Below wr.heap.size wr W → (convert 30 9 (.slice (some ⟨w.heap.size, 0, none⟩) 8 8)).run Tryd.prog W = .ok (.string (strOfNums (big n 8))) W := by
        intro W hW
        have := conv_bytes W w.heap.size 8 8 75 (big n 8) (blk_below HT8.out hW) (by rw [big_len]; exact Nat.le_refl _)
        rwa [List.take_of_length_le (by rw [big_len]; exact Nat.le_refl _)] at this
      have HCV := Aside0.mk hcv
      have hcv0 := hcv wr (Below.refl _ _)
      have hcv1 := hcv (wr.drew) (below_drew (Below.refl _ _))
      clear hcv
      have hs1 : r0.size + r8.size ≤ 9223372036854775807 := by have := HS.out; have := HR8.out.2; omega
      have hs2 : (r0 ++ r8).size + d.size ≤ 9223372036854775807 := by rw [ByteArray.size_append]; have := HS.out; have := HR8.out.2; omega
      have hs3 : (9223372036854775807 < r0.size + r8.size) = False := eq_false (Nat.not_lt.2 hs1)
      have hs4 : (9223372036854775807 < (r0 ++ r8).size + d.size) = False := eq_false (Nat.not_lt.2 hs2)
      have hs5 : (9223372036854775807 < r0.size + r8.size + d.size) = False := eq_false (Nat.not_lt.2 (by have := HS.out; have := HR8.out.2; omega))
      have hs6 : (r0.size + r8.size + d.size ≤ 9223372036854775807) = True := eq_true (by have := HS.out; have := HR8.out.2; omega)
      replace hs1 := eq_true hs1
      replace hs2 := eq_true hs2
      rw [← HR8.out.1] at hcv0 hcv1 HCV
      go_wp2_with (fail)
      go_region_with (go_at_call 54; refine (hash_first.calls 3 r0 _ H0.out).mono ?_; rintro e wX ⟨rfl, hbX⟩; have hcvX := HCV.out wX (by first | exact hbX | exact below_step (below_drew (Below.refl _ _)) hbX); have HBX := Aside0.mk hbX; clear hbX)
      all_goals
        go_wp2_with (fail)
        go_ret
        exact ⟨rfl, below_weaken HB.out HB.out.size (by first | exact HBX.out | exact below_step (below_drew (Below.refl _ _)) HBX.out)⟩
    | succ k1 =>
      have hlt : decide ((i : Int) < 8) = true := decide_eq_true (by have := HI.out; omega)
      have hi1 : (i : Int) ≤ 7 := by have := HI.out; omega
      have hxo : wr.cell? ⟨w.heap.size, i, none⟩ = some (.int .u8 ((big n i).getD i 0)) := by
        rw [blk_cell HT.out, bc_get _ _ (by rw [big_len]; omega)]
      have hfo := blk_frozen HT.out i
      obtain ⟨y, hy⟩ : ∃ y : Int, y = (big n i).getD i 0 := ⟨_, rfl⟩
      rw [← hy] at hxo
      clear hy
      have hsh : (0 ≤ 56 - 8 * (i : Int)) = True := eq_true (by omega)
      have hsm : min (56 - 8 * (i : Int)).toNat 64 = 56 - 8 * i := by omega
      go_wp2_with (fail)
      go_roundg k1
      case measure => omega
      case rel =>
        refine ⟨i + 1, by go_num, ⟨by have := HI.out; omega⟩, ⟨blk_put HT.out _ _ (by rw [bc_set]; rfl)⟩, ⟨HB.out.setCell (Nat.le_refl _) _⟩⟩
end Go.Proofs.YtcghicmdphfodaaDoor.PPlainAsks.RootW
namespace Go.Proofs.YtcghicmdphfodaaDoor.PPlainAsks
open Go.RowKit Go.Proofs.YtcghicmdphfodaaDoorW.PrintWords Go.Proofs.YtcghicmdphfodaaDoorW.PrintLast Go.Proofs.YtcghicmdphfodaaDoorW.PrintMore
/-- What hash.RootText comes to. -/
def hash_RootText.f (a0 : Int) (a1 : ByteArray) : Option ByteArray :=
  if 9 + a1.size ≤ 9223372036854775807 then some (strOfNums [3] ++ strOfNums (RootW.big a0 8) ++ a1) else none
theorem hash_RootText.calls (a0 : Int) (a1 : ByteArray) (r : ByteArray) (w : World) (h : hash_RootText.f a0 a1 = some r) :
    Calls Tryd.prog 27 #[.int .u64 a0, .string a1] w fun e w' => e = .returned (.string r) ∧ Below w.heap.size w w' := by
  unfold hash_RootText.f at h
  by_cases c : 9 + a1.size ≤ 9223372036854775807
  · rw [if_pos c] at h
    rw [← Option.some.inj h]
    exact RootW.root_calls a0 a1 (strOfNums [3]) w rfl (by have e : (strOfNums [3]).size = 1 := rfl; omega)
  · rw [if_neg c] at h; cases h
end Go.Proofs.YtcghicmdphfodaaDoor.PPlainAsks
