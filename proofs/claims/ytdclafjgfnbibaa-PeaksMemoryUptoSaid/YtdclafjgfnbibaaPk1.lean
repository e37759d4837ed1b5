/- The object of package peaks: what stands in memory for a range, and the contracts of Size, Peaks and Root. No condition beyond those that each theorem names. -/
import Derived.Test.YtdclafjgfnbibaaPPeaksRefusedx
import Derived.Test.YtdclafjgfnbibaaWKept
import Derived.Deep.RegionHeld3
import Derived.StillTailTactics
set_option linter.unusedVariables false
set_option linter.unusedSimpArgs false
namespace Go.Proofs.Ytdclafjgfnbibaa.Pk
open Go.RowKit Go.Proofs.YtdclafjgfnbibaaW.PrintWords Go.Proofs.YtdclafjgfnbibaaW.PrintLast Go.Proofs.YtdclafjgfnbibaaW.PrintMore Go.Proofs.Ytdclafjgfnbibaa.PPeaksRefused
/-- A range at block hb: strength, size, peaks; ok: the blocks that it may stand on. -/
def Rg (w : World) (hb : Nat) (ok : Nat → Prop) (k n : Int) (L : List ByteArray) : Prop :=
  ok hb ∧ ∃ v : Value, w.heap[hb]? = some (.cells #[.int .i64 k, .int .u64 n, v] 58 (0, 0)) ∧ Kd.R Kd.string 9 w 0 (fun j => ok j ∧ j ≠ hb) v L
theorem blk_lt' {w : World} {k : Nat} {o : Obj} (h : w.heap[k]? = some o) : k < w.heap.size := by
  rcases Nat.lt_or_ge k w.heap.size with h1 | h1
  · exact h1
  · rw [Array.getElem?_eq_none h1] at h; cases h
theorem Rg.step {w w1 : World} {hb : Nat} {ok : Nat → Prop} {k n : Int} {L : List ByteArray} (h : Rg w hb ok k n L) (hm : ∀ j, ok j → j < w.heap.size → w1.heap[j]? = w.heap[j]?) : Rg w1 hb ok k n L := by
  obtain ⟨h0, v, h1, h2⟩ := h
  exact ⟨h0, v, (hm hb h0 (blk_lt' h1)).trans h1, Kd.R_step h2 (fun j hj hl => hm j hj.1 hl)⟩
theorem Rg.below {w w1 : World} {hb : Nat} {ok : Nat → Prop} {k n : Int} {L : List ByteArray} (h : Rg w hb ok k n L) (hB : Below w.heap.size w w1) : Rg w1 hb ok k n L := h.step (fun j _ hj => hB.block j hj)
theorem Rg.lt {w : World} {hb : Nat} {ok : Nat → Prop} {k n : Int} {L : List ByteArray} (h : Rg w hb ok k n L) : hb < w.heap.size := by
  obtain ⟨_, v, h1, _⟩ := h
  exact blk_lt' h1
theorem Rg.mono {w : World} {hb : Nat} {ok ok' : Nat → Prop} {k n : Int} {L : List ByteArray} (h : Rg w hb ok k n L) (hm : ∀ j, ok j → ok' j) : Rg w hb ok' k n L := by
  obtain ⟨h0, v, h1, h2⟩ := h
  exact ⟨hm hb h0, v, h1, Kd.R_mono h2 (fun j hj => ⟨hm j hj.1, hj.2⟩)⟩
theorem size_calls (w : World) (hb : Nat) (ok : Nat → Prop) (k n : Int) (L : List ByteArray) (h : Rg w hb ok k n L) :
    Calls Try.prog 13 #[.pointer (some ⟨hb, 0, none⟩)] w fun e w' => e = .returned (.int .u64 n) ∧ Below w.heap.size w w' := by
  obtain ⟨h0, v, h1, h2⟩ := h
  have hc : w.cell? ⟨hb, 1, none⟩ = some (.int .u64 n) := by simp [World.cell?, h1]
  clear h2 h1
  go_enter Try.func13, Try.ntmps13
  go_wp2_with (fail)
  go_ret
  exact ⟨rfl, Below.refl _ _⟩
theorem oper_store_row {P : Program} {o : Oper} {a : Act} {w : World} {K : Act → World → Prop} {Q : Exit → Act → World → Prop} {ops : Array Oper} {E : Prop} (hgd : o.guard = none) (ty : TypeId) (x v : Operand) (ho : o.op = .store ty x v) (g : Nat) (hx : a.eval x = .pointer (some ⟨g, 0, none⟩)) (cs : Array Value) (hv : a.eval v = .agg cs)
    (cur : Array Value) (t : TypeId) (hg : w.heap[g]? = some (.cells cur t (0, 0))) (hsz : cur.size = cs.size) (hi : (P.info? ty).map (·.size) = some cs.size) (h1 : ∀ v ∈ cs.toList, v.oneCell' = true)
    (h : ∀ w1, w1 = w.setRow g cs → K (a.put o.dst undef) w1) : if Region.wanted o (yielded ops a.tmps) = true then Oper.wp P o a w K Q else E := by
  rw [if_pos (by simp [Region.wanted, hgd])]
  unfold Oper.wp execOp
  simp only [ho, hx, hv, Sem.run_bind, Sha.run_store_row P w ty g cs cur t hg hsz hi h1, Result.andThen_ok, Sem.run_pure]
  exact h _ rfl
set_option maxHeartbeats 2000000 in
set_option maxRecDepth 100000 in
theorem root_calls (K : Nat) (w : World) (hb : Nat) (ok : Nat → Prop) (k n : Int) (L : List ByteArray) (r : ByteArray) (h : Rg w hb ok k n L) (hf : hash_Root.f K k n L = some r) :
    Calls Try.prog 14 #[.pointer (some ⟨hb, 0, none⟩)] w fun e w' => e = .returned (.agg #[.int .u64 n, .string r]) ∧ Below w.heap.size w w' := by
  have hlt := h.lt
  obtain ⟨h0, v, h1, h2⟩ := h
  obtain ⟨A, c, rfl, hcc, hC⟩ := Kd.R_reads h2
  have c0 : w.cell? ⟨hb, 0, none⟩ = some (.int .i64 k) := by simp [World.cell?, h1]
  have c1 : w.cell? ⟨hb, 1, none⟩ = some (.int .u64 n) := by simp [World.cell?, h1]
  have c2 : w.cell? ⟨hb, 2, none⟩ = some (.slice A L.length c) := by simp [World.cell?, h1]
  have HC := Aside0.mk hC
  have HHB := Aside0.mk hlt
  have HCC := Aside0.mk hcc
  have C0 := Aside0.mk c0
  have C1 := Aside0.mk c1
  have C2 := Aside0.mk c2
  clear h2 h1 hC hlt hcc c0 c1 c2
  go_enter Try.func14, Try.ntmps14
  go_wp2_with (first | (refine Sha.wpList_alloc' rfl 39 rfl #[.int .u64 0, .string ⟨#[]⟩] (by kernel_rfl) ?_; intro w1 hw1; have HW1 := Aside0.mk hw1; clear hw1))
  have hB1 : Below w.heap.size w w1 := by rw [HW1.out]; exact below_alloc (Below.refl _ _) _
  have hr1 : w1.heap[w.heap.size]? = some (.cells #[.int .u64 0, .string ⟨#[]⟩] 39 (0, 0)) := by rw [HW1.out]; exact blk_new _ _
  have d0 : w1.cell? ⟨hb, 0, none⟩ = some (.int .i64 k) := (hB1.cell HHB.out).trans C0.out
  have d1 : w1.cell? ⟨hb, 1, none⟩ = some (.int .u64 n) := (hB1.cell HHB.out).trans C1.out
  have d2 : w1.cell? ⟨hb, 2, none⟩ = some (.slice A L.length c) := (hB1.cell HHB.out).trans C2.out
  have HC1 := Aside0.mk (Kd.C_below HC.out hB1)
  have HB1 := Aside0.mk hB1
  have HR1 := Aside0.mk hr1
  clear hB1 hr1
  go_region_held3 (fun w' => w'.cell? ⟨hb, 0, none⟩ = some (.int .i64 k) ∧ w'.cell? ⟨hb, 1, none⟩ = some (.int .u64 n) ∧ w'.cell? ⟨hb, 2, none⟩ = some (.slice A L.length c)) (first | exact ⟨d0, d1, d2⟩ | exact ⟨e0, e1, e2⟩ | exact ⟨(World.cell?_of_block ((Below.heap_setCell _ _ _ _ hneb).trans (Below.heap_setCell _ _ _ _ hneb))).trans e0, (World.cell?_of_block ((Below.heap_setCell _ _ _ _ hneb).trans (Below.heap_setCell _ _ _ _ hneb))).trans e1, (World.cell?_of_block ((Below.heap_setCell _ _ _ _ hneb).trans (Below.heap_setCell _ _ _ _ hneb))).trans e2⟩ | go_keep)
    (first | (go_at_call 18; refine (hash_Root.calls K k n A c L r _ (Kd.C_drew HC1.out) HCC.out hf).mono ?_; rintro e w2 ⟨rfl, hb2⟩; have e0 : w2.cell? ⟨hb, 0, none⟩ = some (.int .i64 k) := (hb2.cell (World.block_lt_of_cell? _ _ d0)).trans d0; have e1 : w2.cell? ⟨hb, 1, none⟩ = some (.int .u64 n) := (hb2.cell (World.block_lt_of_cell? _ _ d1)).trans d1; have e2 : w2.cell? ⟨hb, 2, none⟩ = some (.slice A L.length c) := (hb2.cell (World.block_lt_of_cell? _ _ d2)).trans d2; have hr2 : w2.heap[w.heap.size]? = some (.cells #[.int .u64 0, .string ⟨#[]⟩] 39 (0, 0)) := (hb2.block w.heap.size (blk_lt' HR1.out)).trans HR1.out; have HR2 := Aside0.mk hr2; have HB2 := Aside0.mk hb2; have q0 : w2.cell? ⟨w.heap.size, 0, none⟩ = some (.int .u64 0) := (by simp [World.cell?, hr2]); have q1 : w2.cell? ⟨w.heap.size, 1, none⟩ = some (.string ⟨#[]⟩) := (by simp [World.cell?, hr2]); have q2 : w2.frozen? ⟨w.heap.size, 0, none⟩ = false := (by simp [World.frozen?, hr2]); have q3 : w2.frozen? ⟨w.heap.size, 1, none⟩ = false := (by simp [World.frozen?, hr2]); have hneb : ¬ (hb = w.heap.size) := Nat.ne_of_lt HHB.out; clear hr2 hb2))
  have hB3 : Below w.heap.size w ((w2.setCell ⟨w.heap.size, 0, none⟩ (.int .u64 n)).setCell ⟨w.heap.size, 1, none⟩ (.string r)) :=
    below_set (below_set (below_weaken HB1.out HB1.out.size (below_weaken (below_drew (Below.refl _ _)) (Nat.le_refl _) HB2.out)) (Nat.le_refl _)) (Nat.le_refl _)
  have HB3 := Aside0.mk hB3
  clear hB3
  go_wp2_with (fail)
  refine bodyPost_ret (results_cell_row rfl _ _ w.heap.size 39 #[.int .u64 n, .string r] (0, 0) _ rfl ?hp Try.underlying39 rfl (by kernel_rfl)) rfl ⟨rfl, HB3.out⟩
  case hp => exact blk_put (blk_put HR2.out _ _ rfl) _ _ rfl
end Go.Proofs.Ytdclafjgfnbibaa.Pk
