/- The object of package forest: what stands in memory for it, and the contracts of New, Size, Strength, Digest. No condition beyond those that each theorem names. -/
import Derived.Test.YtelhpamhnnjgaaaPForestFreshx
import Derived.Test.YtelhpamhnnjgaaaQForestFresh
import Derived.Test.YtelhpamhnnjgaaaWKept
import Derived.Test.YtelhpamhnnjgaaaFoP
import Derived.Test.YtelhpamhnnjgaaaOb
import Derived.Carry
import Derived.Deep.RegionHeld3
import Derived.StillTailTactics
set_option linter.unusedVariables false
set_option linter.unusedSimpArgs false
namespace Go.Proofs.Ytelhpamhnnjgaaa.Fo
open Go.RowKit Go.Proofs.Ytelhpamhnnjgaaa.MB Go.Proofs.YtelhpamhnnjgaaaW.PrintWords Go.Proofs.YtelhpamhnnjgaaaW.PrintLast Go.Proofs.YtelhpamhnnjgaaaW.PrintMore Go.Proofs.Ytelhpamhnnjgaaa.PForestFresh Go.Proofs.Ytelhpamhnnjgaaa.Ob
theorem ty_laid : laidOutB Try.prog = true := by kernel_rfl
theorem ty_row : (45 : TypeId) < Try.prog.types.size := of_decide_eq_true (by kernel_rfl)
theorem ty_wide : (match Try.prog.underlying 45 with | some (.array _ _) | some (.struct _) => true | _ => false) = true := by rw [Try.underlying45]
set_option maxRecDepth 100000 in
theorem ty_keyed : Maps.Keyed Try.prog 45 := Maps.Keyed.of_law (deep_law_laid ty_laid (m := 2) (by omega) ty_row (by kernel_rfl) ty_wide)
set_option maxRecDepth 100000 in
theorem ty_key (h i : Int) (hh : (Lit.int .i64 h).wf = true) (hi : (Lit.int .u64 i).wf = true) : ∃ l, keyOf Try.prog 45 (.agg #[.int .i64 h, .int .u64 i]) = some l := by
  have h1 : Try.prog.keyType 45 = true := by kernel_rfl
  obtain ⟨m, hm⟩ : ∃ m, Try.prog.types.size = m + 1 := Nat.exists_eq_succ_of_ne_zero (Nat.ne_of_gt (Nat.lt_of_le_of_lt (Nat.zero_le _) ty_row))
  have h2 : Try.prog.cellsOf 45 = 2 := by kernel_rfl
  have h3 : Try.prog.cellsOf 3 = 1 := by kernel_rfl
  have h4 : Try.prog.cellsOf 32 = 1 := by kernel_rfl
  unfold keyOf
  rw [Try.underlying45, h1, hm]
  simp [Value.formed, Try.underlying45, h2, h3, h4, Program.keyLits, Try.underlying3, Try.underlying32, hh, hi, Value.cells]
theorem ty : Mp.Ty Try.prog 68 45 9 :=
  ⟨Try.underlying68, Try.underlying9, ty_keyed, ty_key, fun w => by kernel_rfl⟩
/-- A forest at block hb: strength, size, what its map tells; ok: the blocks that it may stand on. -/
def Fr (w : World) (hb : Nat) (ok : Nat → Prop) (k : Int) (n : Nat) (F : Int → Int → Option ByteArray) : Prop :=
  ok hb ∧ ∃ bm, ok bm ∧ bm ≠ hb ∧ w.heap[hb]? = some (.cells #[.int .i64 k, .int .u64 (n : Int), .map (some bm)] 70 (0, 0)) ∧ Mp.Mp Try.prog 45 9 w bm (64 * n) F
theorem Fr.lt {w : World} {hb : Nat} {ok : Nat → Prop} {k : Int} {n : Nat} {F : Int → Int → Option ByteArray} (h : Fr w hb ok k n F) : hb < w.heap.size := by
  obtain ⟨_, bm, _, _, h1, _⟩ := h
  exact blkLt h1
theorem Fr.step {w w1 : World} {hb : Nat} {ok : Nat → Prop} {k : Int} {n : Nat} {F : Int → Int → Option ByteArray} (h : Fr w hb ok k n F) (hm : ∀ j, ok j → j < w.heap.size → w1.heap[j]? = w.heap[j]?) : Fr w1 hb ok k n F := by
  obtain ⟨h0, bm, h1, h2, h3, h4⟩ := h
  exact ⟨h0, bm, h1, h2, (hm hb h0 (blkLt h3)).trans h3, h4.step (hm bm h1 h4.lt)⟩
theorem Fr.below {w w1 : World} {hb : Nat} {ok : Nat → Prop} {k : Int} {n : Nat} {F : Int → Int → Option ByteArray} (h : Fr w hb ok k n F) (hB : Below w.heap.size w w1) : Fr w1 hb ok k n F := h.step (fun j _ hj => hB.block j hj)
theorem Fr.mono {w : World} {hb : Nat} {ok ok' : Nat → Prop} {k : Int} {n : Nat} {F : Int → Int → Option ByteArray} (h : Fr w hb ok k n F) (hm : ∀ j, ok j → ok' j) : Fr w hb ok' k n F := by
  obtain ⟨h0, bm, h1, h2⟩ := h
  exact ⟨hm hb h0, bm, hm bm h1, h2⟩
theorem Fr.bound {w : World} {hb : Nat} {ok : Nat → Prop} {k : Int} {n : Nat} {F : Int → Int → Option ByteArray} (h : Fr w hb ok k n F) : Fr w hb (fun j => ok j ∧ j < w.heap.size) k n F := by
  obtain ⟨h0, bm, h1, h2, h3, h4⟩ := h
  exact ⟨⟨h0, blkLt h3⟩, bm, ⟨h1, h4.lt⟩, h2, h3, h4⟩
theorem Fr.kept {w w' : World} {hb : Nat} {ok S : Nat → Prop} {k : Int} {n : Nat} {F : Int → Int → Option ByteArray} (h : Fr w hb ok k n F) (hk : Kp w w' S) (hd : ∀ j, ok j → ¬ S j) : Fr w' hb ok k n F :=
  h.step (fun j hj hl => hk.keep j hl (hd j hj))
theorem size_calls (w : World) (hb : Nat) (ok : Nat → Prop) (k : Int) (n : Nat) (F : Int → Int → Option ByteArray) (h : Fr w hb ok k n F) :
    Calls Try.prog 14 #[.pointer (some ⟨hb, 0, none⟩)] w fun e w' => e = .returned (.int .u64 (n : Int)) ∧ Below w.heap.size w w' := by
  obtain ⟨h0, bm, _, _, h1, _⟩ := h
  have hc : w.cell? ⟨hb, 1, none⟩ = some (.int .u64 (n : Int)) := by simp [World.cell?, h1]
  clear h1
  go_enter Try.func14, Try.ntmps14
  go_wp2_with (fail)
  go_ret
  exact ⟨rfl, Below.refl _ _⟩
set_option maxHeartbeats 1000000 in
theorem digest_calls (w : World) (hb : Nat) (ok : Nat → Prop) (k : Int) (n : Nat) (F : Int → Int → Option ByteArray) (h : Fr w hb ok k n F) (a i : Int) (ha : (Lit.int .i64 a).wf = true) (hi : (Lit.int .u64 i).wf = true) :
    Calls Try.prog 18 #[.pointer (some ⟨hb, 0, none⟩), .agg #[.int .i64 a, .int .u64 i]] w fun e w' => e = .returned (.tuple #[.string ((F a i).getD ⟨#[]⟩), .bool (F a i).isSome]) ∧ Below w.heap.size w w' := by
  obtain ⟨h0, bm, _, _, h1, h2⟩ := h
  have hc : w.cell? ⟨hb, 2, none⟩ = some (.map (some bm)) := by simp [World.cell?, h1]
  have H2 := Aside0.mk h2
  clear h1 h2
  go_enter Try.func18, Try.ntmps18
  go_wp2_with (fail)
  have hB := below_alloc (Below.refl _ w) (.cells #[.int .i64 a, .int .u64 i] 45)
  have hc0 := (hB.cell (World.block_lt_of_cell? _ _ hc)).trans hc
  have hl0 := (H2.out.step (w1 := (w.alloc (.cells #[.int .i64 a, .int .u64 i] 45)).drew) (hB.block bm H2.out.lt)).look ty ha hi true
  have HB := Aside0.mk hB
  clear hB
  go_region
  go_wp2_with (fail)
  go_ret2
  exact ⟨rfl, below_drew HB.out⟩
set_option maxHeartbeats 1000000 in
theorem new_ok (w : World) (k : Int) (h1 : 1 ≤ k) (h2 : k ≤ 32) :
    Calls Try.prog 10 #[.int .i64 k] w fun e w' => ∃ hb, e = .returned (.tuple #[.pointer (some ⟨hb, 0, none⟩), .int .i64 0]) ∧ Fr w' hb (fun j => w.heap.size ≤ j) k 0 (fo k []) ∧ Below w.heap.size w w' := by
  have hck : hash_Check.f k = some 0 := by rw [hash_Check.is, if_pos ⟨h1, h2⟩]
  have HCK := Aside0.mk hck
  clear hck
  go_enter Try.func10, Try.ntmps10
  go_wp2_with (fail)
  refine (hash_Check.calls k 0 _ HCK.out).mono ?_
  rintro e w1 ⟨rfl, hd1⟩
  have HB1 := Aside0.mk (hd1.below)
  have hmm := @run_makeMap Try.prog
  go_wp2_with (fail)
  go_ret2
  have hs := HB1.out.size
  refine ⟨w1.heap.size + 1, rfl, ⟨by omega, w1.heap.size, by omega, by omega, ?_, ?_⟩, below_alloc (below_alloc HB1.out _) _⟩
  · exact (congrArg (fun x => ((w1.alloc (Obj.map #[] 0)).alloc (Obj.cells #[Value.int IntKind.i64 k, Value.int IntKind.u64 0, Value.map (some w1.heap.size)] 70)).heap[x]?) (show w1.heap.size + 1 = (w1.alloc (Obj.map #[] 0)).heap.size from (Array.size_push _).symm)).trans (blk_new _ _)
  · rw [fo_none]
    exact (Mp.Mp.made w1).step ((below_alloc (Below.refl _ (w1.alloc (Obj.map #[] 0))) _).block _ (show w1.heap.size < (w1.alloc (Obj.map #[] 0)).heap.size from Nat.lt_of_lt_of_eq (Nat.lt_succ_self _) (Array.size_push _).symm))
theorem new_no (w : World) (k : Int) (h : ¬ (1 ≤ k ∧ k ≤ 32)) :
    Calls Try.prog 10 #[.int .i64 k] w fun e w' => e = .returned (.tuple #[.pointer none, .int .i64 70]) ∧ Below w.heap.size w w' := by
  have hck : hash_Check.f k = some 70 := by rw [hash_Check.is, if_neg h]
  have HCK := Aside0.mk hck
  clear hck
  go_enter Try.func10, Try.ntmps10
  go_wp2_with (fail)
  refine (hash_Check.calls k 70 _ HCK.out).mono ?_
  rintro e w1 ⟨rfl, hd1⟩
  have HB1 := Aside0.mk (hd1.below)
  clear hd1
  go_wp2_with (fail)
  go_ret2
  exact ⟨rfl, HB1.out⟩
end Go.Proofs.Ytelhpamhnnjgaaa.Fo
