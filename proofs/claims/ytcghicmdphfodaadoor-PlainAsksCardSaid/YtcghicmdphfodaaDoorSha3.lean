/- The walks of sha.rounds, New, Write, Sum and Of: what they answer, and that other memory stays. No condition beyond those that each theorem names. -/
import Derived.Test.YtcghicmdphfodaaDoorSha2
set_option linter.unusedVariables false
set_option linter.unusedSimpArgs false
namespace Go.Proofs.YtcghicmdphfodaaDoor.Sha
open Go.RowKit Go.Proofs.YtcghicmdphfodaaDoorW.PrintWords Go.Proofs.YtcghicmdphfodaaDoorW.PrintLast Go.Proofs.YtcghicmdphfodaaDoorW.PrintMore
/-! ### Operations on whole rows -/
section
variable {P : Program} {ops : Array Oper} {rest : List Oper} {o : Oper} {a : Act} {w w' : World} {Q : Exit → Act → World → Prop}
theorem wpList_val (d : Nat) (hd : o.dst = some d) (hg : o.guard = none) (v : Value) (hrun : (execOp a.eval o).run P w = .ok (.value v) w') (h : wpList P ops Q rest (a.put o.dst v) w') : wpList P ops Q (o :: rest) a w :=
  wpList_plain hg fun _ hK => by unfold Oper.wp; rw [hrun]; exact hK _ _ h
theorem run_store_row (P : Program) (w : World) (ty g : Nat) (cs cur : Array Value) (t : TypeId) (hg : w.heap[g]? = some (.cells cur t (0, 0))) (hsz : cur.size = cs.size) (hi : (P.info? ty).map (·.size) = some cs.size) (h1 : ∀ v ∈ cs.toList, v.oneCell' = true) :
    (Instr.storeAt ty (.pointer (some ⟨g, 0, none⟩)) (.agg cs)).run P w = .ok () (w.setRow g cs) := by
  have hst := run_storeCells_at P g 0 t cs.toList 0 cur w hg (by simp; omega) h1
  have e : (cur.toList.take (0 + 0) ++ cs.toList ++ cur.toList.drop (0 + 0 + cs.toList.length)).toArray = cs := by
    rw [List.drop_eq_nil_of_le (by simp; omega)]; simp
  rw [e] at hst
  cases hq : P.info? ty with
  | none => simp [hq] at hi
  | some i =>
    have hs : i.size = cs.size := by simpa [hq] using hi
    simp [Instr.storeAt, Instr.sureAddr, storeVar, Value.cells, sizeOf, typeInfo, hq, hs, hst]
theorem wpList_store_row (hgd : o.guard = none) (ty : TypeId) (x v : Operand) (ho : o.op = .store ty x v) (g : Nat) (hx : a.eval x = .pointer (some ⟨g, 0, none⟩)) (cs : Array Value) (hv : a.eval v = .agg cs)
    (cur : Array Value) (t : TypeId) (hg : w.heap[g]? = some (.cells cur t (0, 0))) (hsz : cur.size = cs.size) (hi : (P.info? ty).map (·.size) = some cs.size) (h1 : ∀ v ∈ cs.toList, v.oneCell' = true)
    (h : wpList P ops Q rest (a.put o.dst undef) (w.setRow g cs)) : wpList P ops Q (o :: rest) a w :=
  wpList_plain hgd fun _ hK => by
    unfold Oper.wp execOp
    simp only [ho, hx, hv, Sem.run_bind, run_store_row P w ty g cs cur t hg hsz hi h1, Result.andThen_ok, Sem.run_pure]
    exact hK _ _ h
theorem wpList_store_row' (hgd : o.guard = none) (ty : TypeId) (x v : Operand) (ho : o.op = .store ty x v) (g : Nat) (hx : a.eval x = .pointer (some ⟨g, 0, none⟩)) (cs : Array Value) (hv : a.eval v = .agg cs)
    (cur : Array Value) (t : TypeId) (hg : w.heap[g]? = some (.cells cur t (0, 0))) (hsz : cur.size = cs.size) (hi : (P.info? ty).map (·.size) = some cs.size) (h1 : ∀ v ∈ cs.toList, v.oneCell' = true)
    (h : ∀ w1, w1 = w.setRow g cs → wpList P ops Q rest (a.put o.dst undef) w1) : wpList P ops Q (o :: rest) a w :=
  wpList_store_row hgd ty x v ho g hx cs hv cur t hg hsz hi h1 (h _ rfl)
theorem wpList_alloc' (hgd : o.guard = none) (e : TypeId) (ho : o.op = .alloc e) (cs : Array Value) (hz : (Instr.alloc e true (.tuple #[])).run P w = .ok (.pointer (some ⟨w.heap.size, 0, none⟩)) (w.alloc (.cells cs e)))
    (h : ∀ w1, w1 = w.alloc (.cells cs e) → wpList P ops Q rest (a.put o.dst (.pointer (some ⟨w.heap.size, 0, none⟩))) w1) : wpList P ops Q (o :: rest) a w :=
  wpList_plain hgd fun _ hK => by
    unfold Oper.wp execOp
    simp only [ho, Sem.run_bind, hz, Result.andThen_ok, Sem.run_pure]
    exact hK _ _ (h _ rfl)
theorem wpList_copy_str (hgd : o.guard = none) (d x : Operand) (dT sT e : TypeId) (ho : o.op = .call { callee := .builtin .copy, args := #[d, x], argTypes := #[dT, sT] }) (g off dl dc : Nat) (hd : a.eval d = .slice (some ⟨g, off, none⟩) dl dc) (s : ByteArray) (hx : a.eval x = .string s)
    (hu : P.underlying dT = some (.slice e)) (hs : (P.info? e).map (·.size) = some 1) (cur : Array Value) (t : TypeId) (hg : w.heap[g]? = some (.cells cur t (0, 0))) (n : Nat) (hn : n = min s.size dl) (hfit : off + n ≤ cur.size)
    (h : ∀ w1, w1 = w.setRow g (cur.toList.take off ++ (s.data.toList.take n).map (fun b => Value.int .u8 (b.toNat : Int)) ++ cur.toList.drop (off + n)).toArray → wpList P ops Q rest (a.put o.dst (.int .i64 (n : Int))) w1) : wpList P ops Q (o :: rest) a w := by
  refine wpList_plain hgd fun _ hK => ?_
  have hmin : Nat.min s.size dl = n := hn.symm
  have hl : ((s.data.toList.take n).map (fun b => Value.int .u8 (b.toNat : Int))).length = n := by
    have e1 : s.data.toList.length = s.size := Array.length_toList
    rw [List.length_map, List.length_take]; omega
  have hst := run_storeCells_at P g off t ((s.data.toList.take n).map (fun b => Value.int .u8 (b.toNat : Int))) 0 cur w hg (by rw [hl]; simpa using hfit) (by
    intro v hv
    obtain ⟨x, _, rfl⟩ := List.mem_map.1 hv
    rfl)
  rw [hl] at hst
  simp only [Nat.add_zero] at hst
  have hrun : (Builtin.copy_ #[dT, sT] o.type #[.slice (some ⟨g, off, none⟩) dl dc, .string s]).run P w = .ok (.int .i64 (n : Int)) (w.setRow g (cur.toList.take off ++ (s.data.toList.take n).map (fun b => Value.int .u8 (b.toNat : Int)) ++ cur.toList.drop (off + n)).toArray) := by
    cases hq : P.info? e with
    | none => simp [hq] at hs
    | some i =>
      have hex : ((s.extract 0 n).data.map fun b => Value.int .u8 (b.toNat : Int)).toList = (s.data.toList.take n).map (fun b => Value.int .u8 (b.toNat : Int)) := by
        rw [Array.toList_map, ByteArray.data_extract, Array.toList_extract, List.extract_eq_take_drop]
        simp
      simp [Builtin.copy_, run_underlying hu, Builtin.lenOf, Builtin.firstCells, sizeOf, typeInfo, hq, hmin]
      rw [← List.map_take, hst]
      simp only [Result.andThen, List.append_assoc]
      rfl
  unfold Oper.wp execOp
  simp only [ho, resolve, List.map_toArray, List.map_cons, List.map_nil, hd, hx, pure_bind, invoke, builtin, Sem.run_bind, hrun, Result.andThen_ok, Sem.run_pure]
  exact hK _ _ (h _ rfl)
theorem wpList_load_cells (hgd : o.guard = none) (ty : TypeId) (x : Operand) (ho : o.op = .load ty x) (g : Nat) (hx : a.eval x = .pointer (some ⟨g, 0, none⟩)) (cs : List Value) (hc : ∀ j v, cs[j]? = some v → w.cell? ⟨g, j, none⟩ = some v)
    (d : TypeDesc) (hu : P.underlying ty = some d) (hd : (match d with | .struct _ | .array _ _ => true | _ => false) = true) (hi : (P.info? ty).map (·.size) = some cs.length)
    (h : wpList P ops Q rest (a.put o.dst (.agg cs.toArray)) w) : wpList P ops Q (o :: rest) a w := by
  have hl : (loadCells ⟨g, 0, none⟩ cs.length).run P w = .ok cs.toArray w :=
    run_loadCells_list (P := P) w ⟨g, 0, none⟩ cs (fun j v hv => by
      have hadd : (⟨g, 0, none⟩ : Addr).add j = ⟨g, j, none⟩ := by unfold Addr.add; split <;> simp_all
      rw [hadd]; exact hc j v hv)
  have hrun : (loadVar ty ⟨g, 0, none⟩).run P w = .ok (.agg cs.toArray) w := by
    cases hq : P.info? ty with
    | none => simp [hq] at hi
    | some i =>
      have hs : i.size = cs.length := by simpa [hq] using hi
      have hagg : (isAgg ty).run P w = .ok true w := by
        unfold isAgg
        rw [Sem.run_bind, run_underlying hu w]
        cases d <;> simp_all
      simp [loadVar, Sem.run_bind, hagg, sizeOf, typeInfo, hq, hs, hl]
  refine wpList_plain hgd fun _ hK => ?_
  unfold Oper.wp execOp
  simp only [ho, hx, Instr.loadAt, Instr.sureAddr, Sem.run_bind, Sem.run_pure, Result.andThen_ok, hrun]
  exact hK _ _ h
end
theorem oneCell_ints (k : IntKind) (l : List Int) : ∀ v ∈ (l.map (Value.int k)), v.oneCell' = true := by
  intro v hv
  obtain ⟨x, _, rfl⟩ := List.mem_map.1 hv
  rfl
theorem oneCell_wc (W : List Int) : ∀ v ∈ (wc W).toList, v.oneCell' = true := by
  unfold wc u32s; exact oneCell_ints .u32 W
theorem wc_size (W : List Int) : (wc W).size = W.length := by simp [wc, u32s]
theorem setRow_new (w : World) (o : Obj) (cs cur : Array Value) (t : TypeId) (h : o = .cells cur t (0, 0)) : (w.alloc o).setRow w.heap.size cs = w.alloc (.cells cs t (0, 0)) := by
  subst h
  cases w with
  | mk heap tape drawn os output =>
    simp only [World.setRow, World.alloc]
    congr 1
    apply Array.ext
    · simp
    · intro i h1 h2
      simp only [Array.getElem_modify, Array.getElem_push]
      by_cases e : heap.size = i
      · subst e; simp
      · rw [if_neg e]
        have : i < heap.size := by simp at h1; omega
        simp [this]
set_option maxHeartbeats 1000000 in
set_option maxRecDepth 100000 in
theorem rounds_calls (w : World) : Calls Tryd.prog 52 #[] w fun e w' => e = .returned (.agg (wc K64)) ∧ Below w.heap.size w w' := by
  go_enter Tryd.func52, Tryd.ntmps52
  go_wp2_with (first | (refine wpList_val 1 rfl rfl (.agg (wc K64)) (by kernel_rfl) ?_) | (refine wpList_store_row rfl 67 (.tmp 0) (.tmp 1) rfl w.heap.size rfl (wc K64) rfl _ 67 (blk_new _ _) rfl (by kernel_rfl) (oneCell_wc _) ?_))
  refine bodyPost_ret (results_cell_row rfl _ _ w.heap.size 67 (wc K64) (0, 0) _ rfl (setRow_heap _ _ _ _ _ _ (blk_new _ _)) Tryd.underlying67 rfl (by kernel_rfl)) rfl ⟨rfl, ?_⟩
  rw [setRow_new w _ _ _ _ rfl]
  exact below_alloc (Below.refl _ _) _
/-- The Hash in block hb stands for what was written; z: the number that it bears. -/
def HSt (w : World) (hb : Nat) (M : List Int) (z : Int) : Prop := ∃ S B f, w.heap[hb]? = some (.cells (hc S B ((f : Nat) : Int) z) 66 (0, 0)) ∧ Inv M S B f
/-- All blocks but one stay. -/
structure K1 (w w' : World) (hb : Nat) : Prop where
  size : w.heap.size ≤ w'.heap.size
  keep : ∀ k, k < w.heap.size → k ≠ hb → w'.heap[k]? = w.heap[k]?
  os : w'.os = w.os
  tape : w'.tape = w.tape
  output : w'.output = w.output
theorem K1.refl (w : World) (hb : Nat) : K1 w w hb := ⟨Nat.le_refl _, fun _ _ _ => rfl, rfl, rfl, rfl⟩
theorem K1.trans {w w1 w2 : World} {hb : Nat} (p : K1 w w1 hb) (q : K1 w1 w2 hb) : K1 w w2 hb :=
  ⟨Nat.le_trans p.size q.size, fun k h1 h2 => (q.keep k (Nat.lt_of_lt_of_le h1 p.size) h2).trans (p.keep k h1 h2), q.os.trans p.os, q.tape.trans p.tape, q.output.trans p.output⟩
theorem K1.below {w w' : World} {hb : Nat} (h : Below w.heap.size w w') : K1 w w' hb := ⟨h.size, fun k h1 _ => h.block k h1, h.os, h.tape, h.output⟩
theorem K1.drew {w w' : World} {hb : Nat} (p : K1 w w' hb) (n : Nat) : K1 w (w'.drewN n) hb := ⟨p.size, p.keep, p.os, p.tape, p.output⟩
theorem K1.seth {w w' : World} {hb : Nat} (p : K1 w w' hb) (i : Nat) (u : Value) : K1 w (w'.setCell ⟨hb, i, none⟩ u) hb :=
  ⟨by simpa using p.size, fun k h1 h2 => (Below.heap_setCell _ _ _ _ h2).trans (p.keep k h1 h2), p.os, p.tape, p.output⟩
theorem K1.row {w w' : World} {hb : Nat} (p : K1 w w' hb) (cs : Array Value) : K1 w (w'.setRow hb cs) hb :=
  ⟨by simpa using p.size, fun k h1 h2 => (setRow_other w' hb k cs h2).trans (p.keep k h1 h2), p.os, p.tape, p.output⟩
theorem cutf (hb f : Nat) (W : World) (h : f ≤ 63) : (Instr.sliceAt 64 (.pointer (some ⟨hb, 8, none⟩)) (some (.int .i64 (f : Int))) none none).run Tryd.prog W = .ok (.slice (some ⟨hb, 8 + f, none⟩) (64 - f) (64 - f)) W := by
  have h4 : 0 ≤ (f : Int) ∧ (f : Int) ≤ ((64 : Nat) : Int) := by omega
  have h6 : ¬ (64 = f) := by omega
  have hz : ∀ w, (sizeOf 5).run Tryd.prog w = .ok 1 w := fun w => by kernel_rfl
  have hs2 : (Instr.sliceBound (.int .i64 (f : Int)) 64 .sliceB).run Tryd.prog W = .ok f W := by
    simp only [Instr.sliceBound, asIntOf, pure_bind, if_pos h4]; rfl
  simp only [Instr.sliceAt, Instr.sureAddr, Instr.sliceBounds, Sem.run_bind, run_underlying Tryd.underlying64, Result.andThen_ok, Sem.run_pure, hs2, Option.isSome_none, Bool.false_eq_true, if_false, hz, if_neg h6]
  unfold Addr.add
  by_cases e : f * 1 = 0
  · have : f = 0 := by omega
    subst this; rfl
  · rw [if_neg e, Nat.mul_one]
set_option maxHeartbeats 2000000 in
set_option maxRecDepth 100000 in
theorem write_calls (w : World) (hb : Nat) (M : List Int) (z : Int) (s : ByteArray) (h : HSt w hb M z) (hs : s.size ≤ 9223372036854775807) :
    Calls Tryd.prog 14 #[.pointer (some ⟨hb, 0, none⟩), .string s] w fun e w' => e = .returned (.tuple #[]) ∧ HSt w' hb (M ++ bI s) ((z + s.size) % 18446744073709551616) ∧ K1 w w' hb := by
  obtain ⟨S, B, f, hh, hI⟩ := h
  have HI := Aside0.mk hI
  have HH := Aside0.mk hh
  have HLT := Aside0.mk (blk_lt hh)
  have HS0 := Aside0.mk hs
  clear hI hh
  go_enter Tryd.func14, Tryd.ntmps14
  go_wp2_with (fail)
  refine (rounds_calls w).mono ?_
  rintro e w1 ⟨rfl, hb1⟩
  have HB1 := Aside0.mk hb1
  clear hb1
  obtain ⟨ck, hck⟩ : ∃ c : Array Value, c = wc K64 := ⟨_, rfl⟩
  rw [← hck]
  have hcz : ck.size = 64 := by rw [hck, wc_size]; rfl
  have hc1 : ∀ v ∈ ck.toList, v.oneCell' = true := by rw [hck]; exact oneCell_wc _
  have HCK := Aside0.mk hck
  have HC1 := Aside0.mk hc1
  have HCZ := Aside0.mk hcz
  clear hck hc1 hcz
  go_wp2_with (first | (refine wpList_alloc' rfl 67 rfl (wc (List.replicate 64 0)) (by kernel_rfl) ?_; intro w2 hw2; have HW2 := Aside0.mk hw2; clear hw2) | (refine wpList_store_row' rfl 67 (.tmp 4) (.tmp 6) rfl w1.heap.size rfl ck rfl (wc (List.replicate 64 0)) 67 (by rw [HW2.out]; exact blk_new _ _) (by rw [HCZ.out]; rfl) (by rw [HCZ.out]; kernel_rfl) HC1.out ?_; intro w3 hw3; have HNE := Aside0.mk (show hb ≠ w1.heap.size from by have := HLT.out; have := HB1.out.size; omega); have HB3 := Aside0.mk (show w3.heap[hb]? = some (.cells (hc S B ((f : Nat) : Int) z) 66 (0, 0)) from by rw [hw3, setRow_other _ _ _ _ HNE.out, HW2.out]; exact blk_alloc (blk_below HH.out HB1.out) _); have HK3 := Aside0.mk (show w3.heap[w1.heap.size]? = some (.cells (wc K64) 67 (0, 0)) from by rw [hw3, ← HCK.out]; exact setRow_heap _ _ _ _ _ _ (by rw [HW2.out]; exact blk_new _ _)); have HP3 := Aside0.mk (show Below w.heap.size w w3 from by rw [hw3, HW2.out, setRow_new _ _ _ _ _ rfl]; exact below_alloc HB1.out _); have hx73 : w3.cell? ⟨hb, 73, none⟩ = some (.int .u64 z) := (by rw [blk_cell HB3.out, show 73 = S.length + B.length + 1 from by rw [HI.out.s, stB_len, HI.out.l]]; exact hc_size _ _ _ _); have hf73 := blk_frozen HB3.out 73; clear hw3))
  obtain ⟨z2, hz2⟩ : ∃ x : Int, x = (z + s.size) % 18446744073709551616 := ⟨_, rfl⟩
  have HZ2 := Aside0.mk hz2
  have HT3 := Aside0.mk (show (w3.setCell ⟨hb, 73, none⟩ (.int .u64 ((z + s.size) % 18446744073709551616))).heap[hb]? = some (.cells (hc S B ((f : Nat) : Int) z2) 66 (0, 0)) from by
    refine blk_put HB3.out _ _ ?_
    have e := hc_set_size S B f z z2
    rw [show S.length + B.length + 1 = 73 from by rw [HI.out.s, stB_len, HI.out.l]] at e
    rw [← hz2]; exact e)
  have HKT3 := Aside0.mk (show (w3.setCell ⟨hb, 73, none⟩ (.int .u64 ((z + s.size) % 18446744073709551616))).heap[w1.heap.size]? = some (.cells (wc K64) 67 (0, 0)) from blk_far HK3.out (fun e => HNE.out e.symm) _)
  have HPT3 := Aside0.mk ((K1.below HP3.out).seth (hb := hb) 73 (.int .u64 ((z + s.size) % 18446744073709551616)))
  clear hz2 hx73 hf73
  go_loopg [1] s.size (fun kq v1 w' => ∃ (s' : ByteArray) (M' S B : List Int) (f : Nat), v1 = .string s' ∧ Aside0 (s'.size = kq) ∧ Aside0 (M' ++ bI s' = M ++ bI s) ∧ Aside0 (s'.size ≤ 9223372036854775807) ∧ Aside0 (w'.heap[hb]? = some (.cells (hc S B ((f : Nat) : Int) z2) 66 (0, 0))) ∧ Aside0 (Inv M' S B f) ∧ Aside0 (w'.heap[w1.heap.size]? = some (.cells (wc K64) 67 (0, 0))) ∧ Aside0 (K1 w w' hb))
  case atStart => exact ⟨s, M, S, B, f, rfl, ⟨rfl⟩, ⟨rfl⟩, HS0, HT3, HI, HKT3, HPT3⟩
  case round =>
    obtain ⟨s', M', S, B, f, rfl, HN, HM, HL, HH, HI, HK, HP⟩ := hrel
    cases gk with
    | zero =>
      have hlt : decide (0 < s'.size) = false := decide_eq_false (by have := HN.out; omega)
      go_wp2_with (fail)
      go_end0
      have e0 : bI s' = [] := List.eq_nil_of_length_eq_zero (by rw [bI_len]; exact HN.out)
      have e1 : M' = M ++ bI s := by have := HM.out; rwa [e0, List.append_nil] at this
      exact ⟨rfl, ⟨S, B, f, by rw [← HZ2.out]; exact HH.out, by rw [← e1]; exact HI.out⟩, HP.out⟩
    | succ k1 =>
      have hlt : decide (0 < s'.size) = true := decide_eq_true (by have := HN.out; omega)
      have hf1 : f ≤ 63 := by have := HI.out.f; omega
      obtain ⟨n, hn⟩ : ∃ n : Nat, n = min s'.size (64 - f) := ⟨_, rfl⟩
      have HNN := Aside0.mk hn
      have hSl : S.length = 8 := by rw [HI.out.s, stB_len]
      have hBl : B.length = 64 := HI.out.l
      have HSB := Aside0.mk (And.intro hSl hBl)
      clear hSl hBl hn
      have HXL := Aside0.mk (show ((bI s').take n).length = n from by rw [List.length_take, bI_len]; have := HNN.out; omega)
      have HSP := Aside0.mk (show (spl B ((bI s').take n) f).length = 64 from by rw [spl_len _ _ _ (by rw [HXL.out, HSB.out.2]; have := HNN.out; omega), HSB.out.2])
      have HCS := Aside0.mk (show (hc S B (f : Int) z2).size = 74 from by simp [hc, len_u32s, len_u8s, HSB.out.1, HSB.out.2])
      have hn1 : n ≤ s'.size := by have := HNN.out; omega
      have hn2 : (f : Int) + (n : Int) ≤ 64 := by have := HNN.out; omega
      have hn3 : (n : Int) ≤ 64 := by omega
      by_cases h64 : f + n = 64
      · have h64b : ((f : Int) + (n : Int) == 64) = true := by rw [beq_iff_eq]; omega
        have H64 := Aside0.mk h64
        clear h64
        have hx72 : wr.cell? ⟨hb, 72, none⟩ = some (.int .i64 (f : Int)) := (by rw [blk_cell HH.out, show 72 = S.length + B.length from by rw [HSB.out.1, HSB.out.2]]; exact hc_fill _ _ _ _)
        have hsl := fun W => cutf hb f W hf1
        go_wp2_with (fail)
        refine wp_region_still_tail 9 (by kernel_rfl) (by kernel_rfl) ?_
        simp only [List.take_succ_cons, List.take_zero, List.drop_succ_cons, List.drop_zero]
        change wpStill _ _ (wr.drewN 1) _ _ _
        repeat still_step
        refine wpStill_nil ?_
        change wpList _ _ _ _ _ (wr.drewN 1)
        go_wp2_with (refine wpList_copy_str rfl (.tmp 27) (.tmp 28) 30 9 5 rfl hb (8 + f) (64 - f) (64 - f) rfl s' rfl Tryd.underlying30 (by kernel_rfl) (hc S B (f : Int) z2) 66 HH.out n HNN.out (by rw [HCS.out]; have := HNN.out; omega) ?_; intro w4 hw4; have HB4 := Aside0.mk (show w4.heap[hb]? = some (.cells (hc S (spl B ((bI s').take n) f) (f : Int) z2) 66 (0, 0)) from by rw [hw4, bI_take]; have e := hc_splice S B ((bI s').take n) f (f : Int) z2 HSB.out.1 (by rw [HXL.out, HSB.out.2]; have := HNN.out; omega); rw [HXL.out] at e; rw [e]; exact setRow_heap _ _ _ _ _ _ HH.out); have HK4 := Aside0.mk (show w4.heap[w1.heap.size]? = some (.cells (wc K64) 67 (0, 0)) from by rw [hw4, setRow_other _ _ _ _ (fun e => HNE.out e.symm)]; exact HK.out); have HP4 := Aside0.mk (show K1 w w4 hb from by rw [hw4]; exact (HP.out.drew 1).row _); clear hw4 hx72; have hx72 : w4.cell? ⟨hb, 72, none⟩ = some (.int .i64 (f : Int)) := (by rw [blk_cell HB4.out, show 72 = S.length + (spl B ((bI s').take n) f).length from by rw [HSP.out, HSB.out.1]]; exact hc_fill _ _ _ _); have hf72 := blk_frozen HB4.out 72)
        have HBs := Aside0.mk (show (w4.setCell ⟨hb, 72, none⟩ (.int .i64 ((f : Int) + (n : Int)))).heap[hb]? = some (.cells (hc S (spl B ((bI s').take n) f) ((f : Int) + (n : Int)) z2) 66 (0, 0)) from by
          refine blk_put HB4.out _ _ ?_
          have e := hc_set_fill S (spl B ((bI s').take n) f) (f : Int) z2 ((f : Int) + (n : Int))
          rw [HSB.out.1, HSP.out] at e
          exact e)
        refine (turn _ hb w1.heap.size S (spl B ((bI s').take n) f) _ z2 HBs.out (blk_far HK4.out (fun e => HNE.out e.symm) _) HSB.out.1 HSP.out).mono ?_
        rintro e w5 ⟨rfl, hh5, hp5⟩
        have HH5 := Aside0.mk hh5
        have HP5 := Aside0.mk hp5
        clear hh5 hp5 hx72 hf72
        go_wp2_with (fail)
        have es : s'.size = k1 + 1 := HN.out
        have hlt1 : w1.heap.size < w4.heap.size := blk_lt HK4.out
        go_roundg (s'.size - n)
        case measure => have := HNN.out; omega
        case rel =>
          refine ⟨s'.extract n s'.size, M' ++ (bI s').take n, mixS S (spl B ((bI s').take n) f), spl B ((bI s').take n) f, 0, rfl, ⟨by simp⟩, ⟨by rw [List.append_assoc, bI_extract s' n hn1]; exact HM.out⟩, ⟨by simp; have := HL.out; omega⟩, ⟨HH5.out⟩, ⟨HI.out.full (by rw [HXL.out]; exact H64.out)⟩, ⟨?_⟩, ⟨?_⟩⟩
          · rw [HP5.out.keep _ (by simpa using hlt1) (fun e => HNE.out e.symm) (by simp; omega), Below.heap_setCell _ _ _ _ (fun e => HNE.out e.symm)]
            exact HK4.out
          · refine (HP4.out.seth 72 (.int .i64 ((f : Int) + (n : Int)))).trans ⟨HP5.out.size, fun k h1 h2 => HP5.out.keep k h1 h2 (by omega), HP5.out.os, HP5.out.tape, HP5.out.output⟩
      · have h64b : ((f : Int) + (n : Int) == 64) = false := by rw [beq_eq_false_iff_ne]; omega
        have H64 := Aside0.mk h64
        clear h64
        have hx72 : wr.cell? ⟨hb, 72, none⟩ = some (.int .i64 (f : Int)) := (by rw [blk_cell HH.out, show 72 = S.length + B.length from by rw [HSB.out.1, HSB.out.2]]; exact hc_fill _ _ _ _)
        have hsl := fun W => cutf hb f W hf1
        go_wp2_with (fail)
        refine wp_region_still_tail 9 (by kernel_rfl) (by kernel_rfl) ?_
        simp only [List.take_succ_cons, List.take_zero, List.drop_succ_cons, List.drop_zero]
        change wpStill _ _ (wr.drewN 1) _ _ _
        repeat still_step
        refine wpStill_nil ?_
        change wpList _ _ _ _ _ (wr.drewN 1)
        go_wp2_with (refine wpList_copy_str rfl (.tmp 27) (.tmp 28) 30 9 5 rfl hb (8 + f) (64 - f) (64 - f) rfl s' rfl Tryd.underlying30 (by kernel_rfl) (hc S B (f : Int) z2) 66 HH.out n HNN.out (by rw [HCS.out]; have := HNN.out; omega) ?_; intro w4 hw4; have HB4 := Aside0.mk (show w4.heap[hb]? = some (.cells (hc S (spl B ((bI s').take n) f) (f : Int) z2) 66 (0, 0)) from by rw [hw4, bI_take]; have e := hc_splice S B ((bI s').take n) f (f : Int) z2 HSB.out.1 (by rw [HXL.out, HSB.out.2]; have := HNN.out; omega); rw [HXL.out] at e; rw [e]; exact setRow_heap _ _ _ _ _ _ HH.out); have HK4 := Aside0.mk (show w4.heap[w1.heap.size]? = some (.cells (wc K64) 67 (0, 0)) from by rw [hw4, setRow_other _ _ _ _ (fun e => HNE.out e.symm)]; exact HK.out); have HP4 := Aside0.mk (show K1 w w4 hb from by rw [hw4]; exact (HP.out.drew 1).row _); clear hw4 hx72; have hx72 : w4.cell? ⟨hb, 72, none⟩ = some (.int .i64 (f : Int)) := (by rw [blk_cell HB4.out, show 72 = S.length + (spl B ((bI s').take n) f).length from by rw [HSP.out, HSB.out.1]]; exact hc_fill _ _ _ _); have hf72 := blk_frozen HB4.out 72)
        have es : s'.size = k1 + 1 := HN.out
        go_roundg (s'.size - n)
        case measure => have := HNN.out; omega
        case rel =>
          refine ⟨s'.extract n s'.size, M' ++ (bI s').take n, S, spl B ((bI s').take n) f, f + n, rfl, ⟨by simp⟩, ⟨by rw [List.append_assoc, bI_extract s' n hn1]; exact HM.out⟩, ⟨by simp; have := HL.out; omega⟩, ⟨?_⟩, ⟨?_⟩, ⟨blk_far HK4.out (fun e => HNE.out e.symm) _⟩, ⟨HP4.out.seth _ _⟩⟩
          · refine blk_put HB4.out _ _ ?_
            have e := hc_set_fill S (spl B ((bI s').take n) f) (f : Int) z2 ((f : Int) + (n : Int))
            rw [HSB.out.1, HSP.out] at e
            exact e
          · have q := HI.out.part (X := (bI s').take n) (by rw [HXL.out]; have := H64.out; omega)
            rw [HXL.out] at q
            exact q
theorem hc_size' (S B : List Int) (f z : Int) (hS : S.length = 8) (hB : B.length = 64) : (hc S B f z).size = 74 := by simp [hc, len_u32s, len_u8s, hS, hB]
theorem oneCell_hc (S B : List Int) (f z : Int) : ∀ v ∈ (hc S B f z).toList, v.oneCell' = true := by
  intro v hv
  unfold hc at hv
  rw [List.toList_toArray, List.mem_append, List.mem_append] at hv
  rcases hv with h | h | h
  · exact oneCell_ints .u32 S v h
  · exact oneCell_ints .u8 B v h
  · simp only [List.mem_cons, List.not_mem_nil, or_false] at h
    rcases h with rfl | rfl <;> rfl
theorem cutn (tb n : Nat) (W : World) (h : n ≤ 64) : (Instr.sliceAt 71 (.pointer (some ⟨tb, 0, none⟩)) none (some (.int .i64 ((n : Int) + 8))) none).run Tryd.prog W = .ok (.slice (some ⟨tb, 0, none⟩) (n + 8) 72) W := by
  have h4 : 0 ≤ (n : Int) + 8 ∧ (n : Int) + 8 ≤ ((72 : Nat) : Int) := by omega
  have h5 : ((n : Int) + 8).toNat = n + 8 := by omega
  have hz : ∀ w, (sizeOf 5).run Tryd.prog w = .ok 1 w := fun w => by kernel_rfl
  have hs2 : (Instr.sliceBound (.int .i64 ((n : Int) + 8)) 72 .sliceAlen).run Tryd.prog W = .ok (n + 8) W := by
    simp only [Instr.sliceBound, asIntOf, pure_bind, if_pos h4, h5]; rfl
  simp only [Instr.sliceAt, Instr.sureAddr, Instr.sliceBounds, Sem.run_bind, run_underlying Tryd.underlying71, Result.andThen_ok, Sem.run_pure, hs2, Option.isSome_none, Bool.false_eq_true, if_false, hz, Nat.zero_mul, Nat.sub_zero]
  rfl
theorem cut32 (tb : Nat) (W : World) : (Instr.sliceAt 72 (.pointer (some ⟨tb, 0, none⟩)) none none none).run Tryd.prog W = .ok (.slice (some ⟨tb, 0, none⟩) 32 32) W := by
  have hz : ∀ w, (sizeOf 5).run Tryd.prog w = .ok 1 w := fun w => by kernel_rfl
  simp only [Instr.sliceAt, Instr.sureAddr, Instr.sliceBounds, Sem.run_bind, run_underlying Tryd.underlying72, Result.andThen_ok, Sem.run_pure, Option.isSome_none, Bool.false_eq_true, if_false, hz, Nat.zero_mul, Nat.sub_zero]
  rfl
theorem conv_bytes (W : World) (tb n c : Nat) (t : TypeId) (L : List Int) (h : W.heap[tb]? = some (.cells (bc L) t (0, 0))) (hn : n ≤ L.length) :
    (convert 30 9 (.slice (some ⟨tb, 0, none⟩) n c)).run Tryd.prog W = .ok (.string (strOfNums (L.take n))) W :=
  run_convert_bytes_arg W 30 5 Tryd.underlying30 Tryd.underlying5 tb 0 n c (L.take n) (by rw [List.length_take]; omega) (fun i hi => by
    rw [Nat.zero_add, blk_cell h, bc_get L i (by omega), List.getD_eq_getElem?_getD, List.getD_eq_getElem?_getD, List.getElem?_take_of_lt hi]) 9 Tryd.underlying9
theorem idxS (S : List Int) (hS : S.length = 8) (j : Nat) (hj : j < 8) (W : World) : (Instr.index 62 (.agg (wc S)) (.int .i64 (j : Int))).run Tryd.prog W = .ok (.int .u32 (S.getD j 0)) W := by
  match S, hS with
  | [a, b, c, d, e, f, g, i], _ => exact idx8 a b c d e f g i j W hj
set_option maxHeartbeats 2000000 in
set_option maxRecDepth 100000 in
theorem sum_calls (w : World) (hb : Nat) (M : List Int) (z : Int) (h : HSt w hb M z) :
    Calls Tryd.prog 15 #[.pointer (some ⟨hb, 0, none⟩)] w fun e w' => e = .returned (.string (shaB M z)) ∧ Below w.heap.size w w' := by
  obtain ⟨S, B, f, hh, hI⟩ := h
  have HI := Aside0.mk hI
  have HH := Aside0.mk hh
  have HLT := Aside0.mk (blk_lt hh)
  have HCZ := Aside0.mk (hc_size' S B (f : Int) z (by rw [hI.s, stB_len]) hI.l)
  have HSB := Aside0.mk (And.intro (show S.length = 8 from by rw [hI.s, stB_len]) hI.l)
  have hf1 : f ≤ 63 := by have := hI.f; omega
  obtain ⟨cs, hcs⟩ : ∃ c : Array Value, c = hc S B (f : Int) z := ⟨_, rfl⟩
  have HCS := Aside0.mk hcs
  rw [← hcs] at HCZ HH
  clear hI hh hcs
  go_enter Tryd.func15, Tryd.ntmps15
  go_wp2_with (first | (refine wpList_load_row rfl 66 (.tmp 12) rfl hb rfl 66 cs (0, 0) _ HH.out Tryd.underlying66 rfl (by rw [HCZ.out]; kernel_rfl) ?_) | (refine wpList_alloc' rfl 66 rfl (hc (List.replicate 8 0) (List.replicate 64 0) 0 0) (by kernel_rfl) ?_; intro w2 hw2; have HW2 := Aside0.mk hw2; clear hw2) | (refine wpList_store_row' rfl 66 (.tmp 3) (.tmp 13) rfl w.heap.size rfl cs rfl (hc (List.replicate 8 0) (List.replicate 64 0) 0 0) 66 (by rw [HW2.out]; exact blk_new _ _) (by rw [HCZ.out]; rfl) (by rw [HCZ.out]; kernel_rfl) (by rw [HCS.out]; exact oneCell_hc _ _ _ _) ?_; intro w3 hw3; have HG3 := Aside0.mk (show w3.heap[w.heap.size]? = some (.cells cs 66 (0, 0)) from by rw [hw3]; exact setRow_heap _ _ _ _ _ _ (by rw [HW2.out]; exact blk_new _ _)); have HP3 := Aside0.mk (show Below w.heap.size w w3 from by rw [hw3, HW2.out, setRow_new _ _ _ _ _ rfl]; exact below_alloc (Below.refl _ _) _); have HS3 := Aside0.mk (show w3.heap.size = w.heap.size + 1 from by rw [hw3, HW2.out]; simp); clear hw3) | (refine wpList_alloc' rfl 71 rfl (bc (List.replicate 72 0)) (by kernel_rfl) ?_; intro w4 hw4; have HT4 := Aside0.mk (show w4.heap[w3.heap.size]? = some (.cells (bc (List.replicate 72 0)) 71 (0, 0)) from by rw [hw4]; exact blk_new _ _); have HP4 := Aside0.mk (show Below w.heap.size w w4 from by rw [hw4]; exact below_alloc HP3.out _); have HG4 := Aside0.mk (show w4.heap[w.heap.size]? = some (.cells cs 66 (0, 0)) from by rw [hw4]; exact blk_alloc HG3.out _); have HH4 := Aside0.mk (show w4.heap[hb]? = some (.cells (hc S B (f : Int) z) 66 (0, 0)) from by rw [← HCS.out]; exact blk_below HH.out HP4.out); clear hw4; have hx0 : w4.cell? ⟨w3.heap.size, 0, none⟩ = some (.int .u8 0) := (by rw [blk_cell HT4.out, bc_get _ _ (by simp)]; rfl); have hf0 := blk_frozen HT4.out 0; have hx72 : w4.cell? ⟨hb, 72, none⟩ = some (.int .i64 (f : Int)) := (by rw [blk_cell HH4.out, show 72 = S.length + B.length from by rw [HSB.out.1, HSB.out.2]]; exact hc_fill _ _ _ _); have hnb : hb ≠ w3.heap.size := (by have := HLT.out; have := HS3.out; omega)))
  obtain ⟨n, hn⟩ : ∃ n : Nat, n = padn f := ⟨_, rfl⟩
  have hn1 : n ≤ 64 := by rw [hn]; unfold padn; omega
  have hn2 : 1 ≤ n := by rw [hn]; unfold padn; omega
  rw [show (64 - ((f : Int) + 8) % 64) = (n : Int) from by rw [hn]; unfold padn; omega]
  have HN := Aside0.mk hn
  have HT5 := Aside0.mk (show (w4.setCell ⟨w3.heap.size, 0, none⟩ (.int .u8 128)).heap[w3.heap.size]? = some (.cells (bc (tl n z 0)) 71 (0, 0)) from blk_put HT4.out _ _ (by rw [bc_set]; rfl))
  have HK5 := Aside0.mk ((K1.refl w4 w3.heap.size).seth 0 (.int .u8 128))
  have HNB := Aside0.mk hnb
  clear hn hx0 hf0 hx72 hnb
  go_loopg [22] 8 (fun kq v22 w' => ∃ i : Nat, v22 = .int .i64 (i : Int) ∧ Aside0 (i + kq = 8) ∧ Aside0 (w'.heap[w3.heap.size]? = some (.cells (bc (tl n z i)) 71 (0, 0))) ∧ Aside0 (K1 w4 w' w3.heap.size))
  case atStart => exact ⟨0, by rfl, ⟨by omega⟩, HT5, HK5⟩
  case round =>
    obtain ⟨i, rfl, HI8, HT, HK⟩ := hrel
    cases gk with
    | zero =>
      have hlt : decide ((i : Int) < 8) = false := decide_eq_false (by have := HI8.out; omega)
      have HT8 := Aside0.mk (show wr.heap[w3.heap.size]? = some (.cells (bc (tl n z 8)) 71 (0, 0)) from by have e : i = 8 := (by have := HI8.out; omega); rw [e] at HT; exact HT.out)
      have hsl := fun W => cutn w3.heap.size n W hn1
      have hcv := conv_bytes wr w3.heap.size (n + 8) 72 71 (tl n z 8) HT8.out (by rw [tl_len]; omega)
      go_wp2_with (fail)
      have hbt : bI (strOfNums ((tl n z 8).take (n + 8))) = tail f z := by rw [HN.out]; exact bI_str _ (tail_range f z)
      refine (write_calls wr w.heap.size M z _ ⟨S, B, f, by rw [← HCS.out]; exact (HK.out.keep w.heap.size (blk_lt HG4.out) (by have := HS3.out; omega)).trans HG4.out, HI.out⟩ (by have e : (strOfNums ((tl n z 8).take (n + 8))).size = ((tl n z 8).take (n + 8)).length := (by unfold strOfNums; simp [ByteArray.size]); rw [e, List.length_take]; omega)).mono ?_
      rw [hbt]
      rintro e w6 ⟨rfl, ⟨S6, B6, f6, hh6, hi6⟩, hk6⟩
      have hS6 : S6 = fin M z := by
        rw [hi6.s, List.length_append, tail_len, ← Nat.add_assoc, HI.out.f]; rfl
      have HH6 := Aside0.mk hh6
      have HK6 := Aside0.mk hk6
      have HS6 := Aside0.mk hS6
      have HL6 := Aside0.mk (show S6.length = 8 from by rw [hS6, fin_len])
      clear hsl hcv hbt hh6 hk6 hi6 hS6
      obtain ⟨cs6, hcs6⟩ : ∃ c : List Value, c = u32s S6 := ⟨_, rfl⟩
      have HC6 := Aside0.mk hcs6
      clear hcs6
      go_wp2_with (first | (refine wpList_alloc' rfl 72 rfl (bc (List.replicate 32 0)) (by kernel_rfl) ?_; intro w7 hw7; have HT7 := Aside0.mk (show w7.heap[w6.heap.size]? = some (.cells (bc (List.replicate 32 0)) 72 (0, 0)) from by rw [hw7]; exact blk_new _ _); have HP7 := Aside0.mk (show Below w6.heap.size w6 w7 from by rw [hw7]; exact below_alloc (Below.refl _ _) _); clear hw7) | (refine wpList_load_cells rfl 62 (.tmp 45) rfl w.heap.size rfl cs6 (fun j v hv => by rw [HC6.out] at hv; have hj : j < S6.length := (by have h1 := (List.getElem?_eq_some_iff.1 hv).1; rwa [len_u32s] at h1); rw [blk_cell (blk_below HH6.out HP7.out), hc_state _ _ _ _ j hj]; rw [← hv]; exact (get_map .u32 S6 j hj).symm) _ Tryd.underlying62 rfl (by rw [HC6.out, len_u32s, HL6.out]; kernel_rfl) ?_))
      have HKA := Aside0.mk (show Below w.heap.size w w7 from by
        have b1 := HP4.out.size
        have b2 := HK.out.size
        have b3 := HK6.out.size
        have b4 := HP7.out.size
        refine ⟨by rw [HP7.out.os, HK6.out.os, HK.out.os, HP4.out.os], by rw [HP7.out.tape, HK6.out.tape, HK.out.tape, HP4.out.tape], by rw [HP7.out.output, HK6.out.output, HK.out.output, HP4.out.output], by omega, fun k hk => ?_⟩
        rw [HP7.out.block k (by omega), HK6.out.keep k (by omega) (by omega), HK.out.keep k (by omega) (by have := HS3.out; omega), HP4.out.block k hk])
      rw [HC6.out]
      obtain ⟨ag, hag⟩ : ∃ x : Array Value, x = wc S6 := ⟨_, rfl⟩
      rw [show (u32s S6).toArray = ag from hag.symm]
      have HIX := Aside0.mk (show ∀ (j : Nat) (W : World), j < 8 → (Instr.index 62 (.agg ag) (.int .i64 (j : Int))).run Tryd.prog W = .ok (.int .u32 (S6.getD j 0)) W from fun j W hj => by rw [hag]; exact idxS S6 HL6.out j hj W)
      have HOB := Aside0.mk (show w.heap.size ≤ w6.heap.size from by have := HK6.out.size; have := HK.out.size; have := HP4.out.size; omega)
      clear hag hlt
      go_loopg [47] 8 (fun kq v47 w' => ∃ i : Nat, v47 = .int .i64 (i : Int) ∧ Aside0 (i + kq = 8) ∧ Aside0 (w'.heap[w6.heap.size]? = some (.cells (bc (outN S6 (4 * i))) 72 (0, 0))) ∧ Aside0 (K1 w7 w' w6.heap.size))
      case atStart => exact ⟨0, by rfl, ⟨by omega⟩, HT7, ⟨K1.refl _ _⟩⟩
      case round =>
        obtain ⟨i2, rfl, HI2, HO, HKO⟩ := hrel
        obtain ⟨wq, hwq⟩ : ∃ x : World, x = wr := ⟨_, rfl⟩
        subst hwq
        cases gk with
        | zero =>
          have hlt : decide ((i2 : Int) < 8) = false := decide_eq_false (by have := HI2.out; omega)
          have HO8 := Aside0.mk (show wq.heap[w6.heap.size]? = some (.cells (bc (outN S6 32)) 72 (0, 0)) from by have e : i2 = 8 := (by have := HI2.out; omega); rw [e] at HO; exact HO.out)
          have hsl := cut32 w6.heap.size
          have hcv := conv_bytes wq w6.heap.size 32 32 72 (outN S6 32) HO8.out (by rw [outN_len]; exact Nat.le_refl _)
          go_wp2_with (fail)
          go_ret
          refine ⟨?_, ?_⟩
          · show Ending.returned (.string (strOfNums ((outN S6 32).take 32))) = _
            rw [List.take_of_length_le (by rw [outN_len]; exact Nat.le_refl _), HS6.out]; rfl
          · refine ⟨by rw [HKO.out.os, HKA.out.os], by rw [HKO.out.tape, HKA.out.tape], by rw [HKO.out.output, HKA.out.output], Nat.le_trans HKA.out.size HKO.out.size, fun k hk => ?_⟩
            rw [HKO.out.keep k (Nat.lt_of_lt_of_le hk HKA.out.size) (by have := HOB.out; omega), HKA.out.block k hk]
        | succ k2 =>
          have hlt : decide ((i2 : Int) < 8) = true := decide_eq_true (by have := HI2.out; omega)
          have hi2 : (i2 : Int) ≤ 7 := by have := HI2.out; omega
          have hix := fun W => HIX.out i2 W (by omega)
          obtain ⟨x, hx⟩ : ∃ x : Int, x = S6.getD i2 0 := ⟨_, rfl⟩
          rw [← hx] at hix
          have HX := Aside0.mk hx
          clear hx
          go_wp2_with (fail)
          clear hix
          go_loopg [51] 4 (fun kq v51 w' => ∃ j : Nat, v51 = .int .i64 (j : Int) ∧ Aside0 (j + kq = 4) ∧ Aside0 (w'.heap[w6.heap.size]? = some (.cells (bc (outN S6 (4 * i2 + j))) 72 (0, 0))) ∧ Aside0 (K1 w7 w' w6.heap.size))
          case atStart => exact ⟨0, by rfl, ⟨by omega⟩, HO, HKO⟩
          case round =>
            obtain ⟨j, rfl, HJ, HO, HKO⟩ := hrel
            cases gk with
            | zero =>
              have hlt : decide ((j : Int) < 4) = false := decide_eq_false (by have := HJ.out; omega)
              go_wp2_with (fail)
              go_roundg k2
              case measure => omega
              case rel =>
                have e : j = 4 := by have := HJ.out; omega
                rw [e] at HO
                exact ⟨i2 + 1, by go_num, ⟨by have := HI2.out; omega⟩, HO, HKO⟩
            | succ k3 =>
              have hlt : decide ((j : Int) < 4) = true := decide_eq_true (by have := HJ.out; omega)
              have hj1 : (j : Int) ≤ 3 := by have := HJ.out; omega
              have hxo : wr.cell? ⟨w6.heap.size, 4 * i2 + j, none⟩ = some (.int .u8 ((outN S6 (4 * i2 + j)).getD (4 * i2 + j) 0)) := by
                rw [blk_cell HO.out, bc_get _ _ (by rw [outN_len]; omega)]
              have hfo := blk_frozen HO.out (4 * i2 + j)
              obtain ⟨y, hy⟩ : ∃ y : Int, y = (outN S6 (4 * i2 + j)).getD (4 * i2 + j) 0 := ⟨_, rfl⟩
              rw [← hy] at hxo
              clear hy
              have hsh : (0 ≤ 24 - 8 * (j : Int)) = True := eq_true (by omega)
              have hsm : min (24 - 8 * (j : Int)).toNat 32 = 24 - 8 * j := by omega
              go_wp2_with (fail)
              go_roundg k3
              case measure => omega
              case rel =>
                refine ⟨j + 1, by go_num, ⟨by have := HJ.out; omega⟩, ⟨blk_put HO.out _ _ ?_⟩, ⟨HKO.out.seth _ _⟩⟩
                rw [bc_set, show 4 * i2 + (j + 1) = (4 * i2 + j) + 1 from rfl, outN]
                congr 2
                unfold obyte
                rw [show (4 * i2 + j) / 4 = i2 from by omega, show (4 * i2 + j) % 4 = j from by omega, HX.out]
    | succ k1 =>
      have hlt : decide ((i : Int) < 8) = true := decide_eq_true (by have := HI8.out; omega)
      have hi1 : (i : Int) ≤ 7 := by have := HI8.out; omega
      have hx73 : wr.cell? ⟨hb, 73, none⟩ = some (.int .u64 z) := by
        rw [blk_cell (show wr.heap[hb]? = some (.cells (hc S B (f : Int) z) 66 (0, 0)) from (HK.out.keep hb (blk_lt HH4.out) HNB.out).trans HH4.out), show 73 = S.length + B.length + 1 from by rw [HSB.out.1, HSB.out.2]]
        exact hc_size _ _ _ _
      have hxt : wr.cell? ⟨w3.heap.size, n + i, none⟩ = some (.int .u8 ((tl n z i).getD (n + i) 0)) := by
        rw [blk_cell HT.out, bc_get _ _ (by rw [tl_len]; omega)]
      have hft := blk_frozen HT.out (n + i)
      obtain ⟨y, hy⟩ : ∃ y : Int, y = (tl n z i).getD (n + i) 0 := ⟨_, rfl⟩
      rw [← hy] at hxt
      clear hy
      have hsh : (0 ≤ 56 - 8 * (i : Int)) = True := eq_true (by omega)
      have hsm : min (56 - 8 * (i : Int)).toNat 64 = 56 - 8 * i := by omega
      go_wp2_with (fail)
      go_roundg k1
      case measure => omega
      case rel => exact ⟨i + 1, by go_num, ⟨by have := HI8.out; omega⟩, ⟨blk_put HT.out _ _ (by rw [bc_set]; rfl)⟩, ⟨HK.out.seth _ _⟩⟩
def h0c : Array Value := hc H8 (List.replicate 64 0) 0 0
set_option maxHeartbeats 1000000 in
set_option maxRecDepth 100000 in
theorem new_calls (w : World) : Calls Tryd.prog 13 #[] w fun e w' => e = .returned (.pointer (some ⟨w.heap.size, 0, none⟩)) ∧ w' = w.alloc (.cells h0c 66) := by
  go_enter Tryd.func13, Tryd.ntmps13
  go_wp2_with (first | (refine wpList_val (w' := w) 1 rfl rfl (.agg (wc H8)) (by kernel_rfl) ?_) | (refine wpList_val (w' := w) 2 rfl rfl (.agg h0c) (by kernel_rfl) ?_) | (refine wpList_val (w' := w.alloc (.cells h0c 66)) 3 rfl rfl (.pointer (some ⟨w.heap.size, 0, none⟩)) (by kernel_rfl) ?_))
  go_ret
  exact ⟨rfl, rfl⟩
theorem new_st (w : World) : HSt (w.alloc (.cells h0c 66)) w.heap.size [] 0 := ⟨H8, List.replicate 64 0, 0, blk_new w _, Inv.nil _ (by simp)⟩
/-- The sum of a text (its length modulo 2^64 is told). -/
def sha (M : List Int) : ByteArray := shaB M ((M.length : Int) % 18446744073709551616)
theorem K1.old {w w1 w2 : World} {hb : Nat} (h : Below w.heap.size w w1) (hs : w.heap.size ≤ hb) (k : K1 w1 w2 hb) : Below w.heap.size w w2 :=
  ⟨k.os.trans h.os, k.tape.trans h.tape, k.output.trans h.output, Nat.le_trans h.size k.size, fun i hi => (k.keep i (Nat.lt_of_lt_of_le hi h.size) (by omega)).trans (h.block i hi)⟩
set_option maxHeartbeats 1000000 in
set_option maxRecDepth 100000 in
theorem of_calls (A : Option Addr) (c : Nat) (l : List ByteArray) (w : World) (hr : Kd.C Kd.string w A l.length l) (hcc : l.length ≤ c) (hl : ∀ s ∈ l, s.size ≤ 9223372036854775807) :
    Calls Tryd.prog 11 #[.slice A l.length c] w fun e w' => e = .returned (.string (sha (l.flatMap bI))) ∧ Below w.heap.size w w' := by
  have HR := Aside0.mk hr
  have HL := Aside0.mk hl
  have HM := Aside0.mk hr.2.1
  clear hr hl hcc
  obtain ⟨r, hr⟩ : ∃ r : ByteArray, r = sha (l.flatMap bI) := ⟨_, rfl⟩
  rw [← hr]
  have HSH := Aside0.mk hr
  clear hr
  go_enter Tryd.func11, Tryd.ntmps11
  go_wp2_with (fail)
  refine (new_calls w).mono ?_
  rintro e w1 ⟨rfl, hw1⟩
  have HS1 := Aside0.mk (show HSt w1 w.heap.size [] 0 from by rw [hw1]; exact new_st w)
  have HB1 := Aside0.mk (show Below w.heap.size w w1 from by rw [hw1]; exact below_alloc (Below.refl _ _) _)
  clear hw1
  go_wp2_with (fail)
  go_loopg [9] l.length (fun kq v9 w' => ∃ i : Nat, v9 = .int .i64 (i : Int) ∧ Aside0 (i + kq = l.length) ∧ Aside0 (HSt w' w.heap.size ((l.take i).flatMap bI) ((((l.take i).flatMap bI).length : Int) % 18446744073709551616)) ∧ Aside0 (Below w.heap.size w w'))
  case atStart => exact ⟨0, by rfl, ⟨by omega⟩, ⟨HS1.out⟩, HB1⟩
  case round =>
    obtain ⟨i, rfl, HI, HH, HB⟩ := hrel
    cases gk with
    | zero =>
      have hlt : decide (i < l.length) = false := decide_eq_false (by have := HI.out; omega)
      have HH2 := Aside0.mk (show HSt wr w.heap.size (l.flatMap bI) (((l.flatMap bI).length : Int) % 18446744073709551616) from by have e : l.take i = l := List.take_of_length_le (by have := HI.out; omega); rw [e] at HH; exact HH.out)
      go_wp2_with (fail)
      have hsum := sum_calls wr w.heap.size _ _ HH2.out
      rw [← sha, ← HSH.out] at hsum
      refine hsum.mono ?_
      rintro e w2 ⟨rfl, hb2⟩
      have HB2 := Aside0.mk (below_weaken HB.out HB.out.size hb2)
      clear hb2
      go_wp2_with (fail)
      go_ret
      exact ⟨rfl, HB2.out⟩
    | succ k1 =>
      have hil : i < l.length := by have := HI.out; omega
      have hlt : decide (i < l.length) = true := decide_eq_true hil
      have hib : (i : Int) ≤ 9223372036854775806 := by have h1 := HM.out; unfold maxLen at h1; omega
      obtain ⟨ad, e1, hx⟩ := Kd.at_string (Kd.C_below HR.out HB.out) (i : Int) (by omega) (by omega)
      cases e1
      rw [Int.toNat_natCast] at hx
      have hrd : rdOf ByteArray.empty l (i : Int) = l[i] := by unfold rdOf; simp [hil]
      rw [hrd] at hx
      obtain ⟨s, hs⟩ : ∃ s : ByteArray, s = l[i] := ⟨_, rfl⟩
      rw [← hs] at hx
      have HSE := Aside0.mk hs
      have hs1 : s.size ≤ 9223372036854775807 := by rw [hs]; exact HL.out _ (List.getElem_mem hil)
      have HSL := Aside0.mk hs1
      clear hrd hs hs1
      go_wp2_with (fail)
      refine (write_calls wr w.heap.size _ _ s HH.out HSL.out).mono ?_
      rintro e w2 ⟨rfl, hh2, hk2⟩
      have HH2 := Aside0.mk hh2
      have HK2 := Aside0.mk hk2
      clear hh2 hk2 hx
      go_wp2_with (fail)
      go_roundg k1
      case measure => exact Nat.lt_succ_self _
      case rel =>
        refine ⟨i + 1, by go_num, ⟨by have := HI.out; clear HSH; omega⟩, ⟨?_⟩, ⟨K1.old HB.out (Nat.le_refl _) HK2.out⟩⟩
        have e1 : (l.take (i + 1)).flatMap bI = (l.take i).flatMap bI ++ bI s := by
          rw [List.take_succ_eq_append_getElem hil, List.flatMap_append, HSE.out]; simp
        have h2 := HH2.out
        rw [e1, List.length_append, bI_len]
        have e3 : ∀ X Y : Nat, ((X + Y : Nat) : Int) % 18446744073709551616 = ((X : Int) % 18446744073709551616 + (Y : Int)) % 18446744073709551616 := fun X Y => by rw [Int.emod_add_emod]; rfl
        rw [e3]
        exact h2
end Go.Proofs.YtcghicmdphfodaaDoor.Sha
