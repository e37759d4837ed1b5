/- massifref01: turn, plan and mixed: what they answer is what the program's own sums are made of. No condition beyond those that each theorem names. -/
import Derived.Test.YtcghicmdphfodaaDoorSha3
import Derived.Test.YtcghicmdphfodaaDoorWq
import Derived.Test.YtcghicmdphfodaaDoorWs
set_option linter.unusedVariables false
set_option linter.unusedSimpArgs false
namespace Go.Proofs.YtcghicmdphfodaaDoor.Sha
open Go.RowKit Go.Proofs.YtcghicmdphfodaaDoorW.PrintWords Go.Proofs.YtcghicmdphfodaaDoorW.PrintLast Go.Proofs.YtcghicmdphfodaaDoorW.PrintMore Go.Proofs.YtcghicmdphfodaaDoor.Wq Go.Proofs.YtcghicmdphfodaaDoor.Ws
theorem or_comm32 (x y : Int) : Go.bits .or .u32 x y = Go.bits .or .u32 y x := by simp only [Go.bits, BitVec.or_comm]
set_option maxHeartbeats 1000000 in
theorem turn_calls (x k : Int) (w : World) (hk : 1 ≤ k ∧ k ≤ 31) :
    Calls Tryd.prog 60 #[.int .u32 x, .int .i64 k] w fun e w' => e = .returned (.int .u32 (rot x k.toNat)) ∧ Below w.heap.size w w' := by
  obtain ⟨s, hs⟩ : ∃ s : Int, s = 32 - k := ⟨_, rfl⟩
  have h0 : 0 ≤ s ∧ s ≤ 32 ∧ 0 ≤ k ∧ k ≤ 32 := by omega
  have h2 : IntKind.i64.wrap (32 - k) = s := by rw [IntWalk.i64_in _ (by omega)]; exact hs.symm
  have h2' : wrap64 (32 - k) = s := (i64_w _).symm.trans h2
  obtain ⟨p, hp⟩ : ∃ p : Nat, p = s.toNat := ⟨_, rfl⟩
  obtain ⟨q, hq⟩ : ∃ p : Nat, p = k.toNat := ⟨_, rfl⟩
  have HP := Aside0.mk (And.intro hs (And.intro hp (And.intro hq hk)))
  have h3 : min s.toNat 32 = p := by omega
  have h4 : min k.toNat 32 = q := by omega
  have h5 : (0 ≤ s) = True := eq_true h0.1
  have h6 : (0 ≤ k) = True := eq_true h0.2.2.1
  clear hs hp hq h0 hk
  go_enter Tryd.func60, Tryd.ntmps60
  go_wp2_with (fail)
  go_quiet (fail)
  go_wp2_with (fail)
  go_ret
  have e1 : p = 32 - k.toNat := by have := HP.out; omega
  have e2 : q = k.toNat := by have := HP.out; omega
  refine ⟨?_, pw_below_drewN (Below.refl _ _) _⟩
  rw [e1, e2]
  unfold rot
  rw [or_comm32]
  rfl
/-- One byte more of a word. -/
theorem wstep_is (x c : Int) (hc : 0 ≤ c ∧ c < 256) : wstep x c = (x * 256 + c) % 4294967296 := by
  unfold wstep
  have h1 : c % 4294967296 = c := by omega
  rw [h1, Go.bits_join .u32 32 (by decide) (fun n h₀ h₁ => by rw [IntKind.wrap_u32]; omega) 8 (x * 256 % 4294967296) c (by omega) (by omega) (by omega) hc.1 (by omega) (by omega)]
  omega
theorem bI_getD (b : ByteArray) (i : Nat) (h : i < b.size) : (bI b).getD i 0 = (b[i].toNat : Int) := by
  unfold bI
  have h2 : i < b.data.toList.length := by rw [Array.length_toList]; exact h
  rw [List.getD_eq_getElem?_getD, List.getElem?_map, List.getElem?_eq_getElem h2]
  rfl
theorem byte_range (x : UInt8) : 0 ≤ (x.toNat : Int) ∧ (x.toNat : Int) < 256 := ⟨Int.natCast_nonneg _, by have := x.toNat_lt; omega⟩
theorem WS_w {P : Program} {ops : Array Oper} {Q : Exit → Act → World → Prop} {S : World → Prop} {i : Nat} {σ : List (Nat × Bool)} {oi : Oper} {a : Act} {w : World} (hi : ops[i]? = some oi) (hS : S w) (hw : Region.wanted oi (yielded ops a.tmps) = true)
    (h : ∀ K : Act → Prop, (∀ a, WS P ops Q S σ a w → K a) → yq P oi a K) : WS P ops Q S ((i, false) :: σ) a w :=
  WS.y hi hS (fun K hK => by rw [if_pos hw]; exact h K hK)
theorem WS_c {P : Program} {ops : Array Oper} {Q : Exit → Act → World → Prop} {S : World → Prop} {i : Nat} {σ : List (Nat × Bool)} {oi : Oper} {a : Act} {w : World} (hi : ops[i]? = some oi) (hw : Region.wanted oi (yielded ops a.tmps) = true)
    (h : ∀ K' : Act → World → Prop, Shut (∀ a w, S w → WS P ops Q S σ a w → K' a w) → Oper.wp P oi a w K' Q) : WS P ops Q S ((i, true) :: σ) a w :=
  WS.c hi (fun K hK => by rw [if_pos hw]; exact h K hK)
attribute [local go_sem] Go.Proofs.YtcghicmdphfodaaDoor.Ws.yq Go.Proofs.YtcghicmdphfodaaDoor.Ws.yAt
set_option maxHeartbeats 4000000 in
set_option maxRecDepth 100000 in
theorem plan_calls (w : World) (b : ByteArray) (hb : b.size = 64) :
    Calls Tryd.prog 59 #[.string b] w fun e w' => e = .returned (.agg (wc (W2 (bI b) 48))) ∧ Below w.heap.size w w' := by
  have HZ := Aside0.mk hb
  clear hb
  go_enter Tryd.func59, Tryd.ntmps59
  go_wp2_with (first
    | (refine wpList_alloc' rfl 67 rfl (wc (List.replicate 64 0)) (by kernel_rfl) ?_; first
      | (have hX := HW1.out; intro w2 hw2; have HW2 := Aside0.mk hw2; clear hw2 hX)
      | (intro w1 hw1; have HW1 := Aside0.mk hw1; clear hw1)))
  have hs1 : w1.heap.size = w.heap.size + 1 := by rw [HW1.out]; simp
  have HT0 := Aside0.mk (show w2.heap[w.heap.size + 1]? = some (.cells (wc (W1 (bI b) 0)) 67 (0, 0)) from by rw [HW2.out, ← hs1]; exact blk_new _ _)
  have HG := Aside0.mk (show w2.heap[w.heap.size]? = some (.cells (wc (List.replicate 64 0)) 67 (0, 0)) from by rw [HW2.out]; exact blk_alloc (by rw [HW1.out]; exact blk_new _ _) _)
  have HB2 := Aside0.mk (show Below w.heap.size w w2 from by rw [HW2.out, HW1.out]; exact below_alloc (below_alloc (Below.refl _ _) _) _)
  have hs2 : w2.heap.size = w.heap.size + 2 := by rw [HW2.out]; simp [hs1]
  have HS2 := Aside0.mk hs2
  rw [hs1]
  clear hs1 hs2
  go_loopg [4] 16 (fun kq v4 w' => ∃ t : Nat, v4 = .int .i64 (t : Int) ∧ Aside0 (t + kq = 16) ∧ Aside0 (w'.heap[w.heap.size + 1]? = some (.cells (wc (W1 (bI b) t)) 67 (0, 0))) ∧ Aside0 (K1 w2 w' (w.heap.size + 1)))
  case atStart => exact ⟨0, by rfl, ⟨by omega⟩, HT0, ⟨K1.refl _ _⟩⟩
  case round =>
    obtain ⟨t, rfl, HK, HT, HP⟩ := hrel
    cases gk with
    | zero =>
      have hlt : decide ((t : Int) < 16) = false := decide_eq_false (by have := HK.out; omega)
      go_wp2_with (fail)
      have HT16 := Aside0.mk (show wr.heap[w.heap.size + 1]? = some (.cells (wc (W2 (bI b) 0)) 67 (0, 0)) from by have e : t = 16 := (by have := HK.out; omega); rw [e] at HT; exact HT.out)
      clear HT
      obtain ⟨wB, hwB⟩ : ∃ x : World, x = wr := ⟨_, rfl⟩
      subst hwB
      go_loopg [6] 48 (fun kq v6 w' => ∃ n : Nat, v6 = .int .i64 ((n : Int) + 16) ∧ Aside0 (n + kq = 48) ∧ Aside0 (w'.heap[w.heap.size + 1]? = some (.cells (wc (W2 (bI b) n)) 67 (0, 0))) ∧ Aside0 (K1 w2 w' (w.heap.size + 1)))
      case atStart => exact ⟨0, by rfl, ⟨by omega⟩, HT16, HP⟩
      case round =>
        obtain ⟨n, rfl, HN, HT, HP⟩ := hrel
        cases gk with
        | zero =>
          have hlt : decide ((n : Int) + 16 < 64) = false := decide_eq_false (by have := HN.out; omega)
          have hb2 : (n : Int) ≤ 48 := by have := HN.out; omega
          have HT48 := Aside0.mk (show wr.heap[w.heap.size + 1]? = some (.cells (wc (W2 (bI b) 48)) 67 (0, 0)) from by have e : n = 48 := (by have := HN.out; omega); rw [e] at HT; exact HT.out)
          have HG48 := Aside0.mk (show wr.heap[w.heap.size]? = some (.cells (wc (List.replicate 64 0)) 67 (0, 0)) from (HP.out.keep _ (by have := HS2.out; omega) (by omega)).trans HG.out)
          go_wp2_with (first
            | (refine wpList_load_row rfl 67 (.tmp 3) rfl (w.heap.size + 1) rfl 67 (wc (W2 (bI b) 48)) (0, 0) _ HT48.out Tryd.underlying67 rfl (by rw [wc_size, W2_len]; kernel_rfl) ?_)
            | (refine wpList_store_row' rfl 67 (.tmp 2) (.tmp 72) rfl w.heap.size rfl (wc (W2 (bI b) 48)) rfl (wc (List.replicate 64 0)) 67 HG48.out (by rw [wc_size, wc_size, W2_len]; rfl) (by rw [wc_size, W2_len]; kernel_rfl) (oneCell_wc _) ?_; intro w5 hw5; have HW5 := Aside0.mk hw5; clear hw5))
          refine bodyPost_ret (results_cell_row rfl _ _ w.heap.size 67 (wc (W2 (bI b) 48)) (0, 0) _ rfl (by rw [HW5.out]; exact setRow_heap _ _ _ _ _ _ HG48.out) Tryd.underlying67 rfl (by rw [wc_size, W2_len]; kernel_rfl)) rfl ⟨rfl, ?_⟩
          rw [HW5.out]
          have k2 := HP.out
          have k3 := HB2.out
          refine ⟨k2.os.trans k3.os, k2.tape.trans k3.tape, k2.output.trans k3.output, by simp; exact Nat.le_trans k3.size k2.size, fun i hi => ?_⟩
          rw [setRow_other _ _ _ _ (Nat.ne_of_lt hi), k2.keep i (Nat.lt_of_lt_of_le hi k3.size) (by omega)]
          exact k3.block i hi
        | succ k3 =>
          have hlt : decide ((n : Int) + 16 < 64) = true := decide_eq_true (by have := HN.out; omega)
          have hb2 : (n : Int) ≤ 47 := by have := HN.out; omega
          have hnl : n + 16 < 64 := by omega
          have hx15 : wr.cell? ⟨w.heap.size + 1, n + 1, none⟩ = some (.int .u32 ((W2 (bI b) n).getD (n + 1) 0)) := by rw [blk_cell HT.out, wc_get _ _ (by rw [W2_len]; omega)]
          have hx2 : wr.cell? ⟨w.heap.size + 1, n + 14, none⟩ = some (.int .u32 ((W2 (bI b) n).getD (n + 14) 0)) := by rw [blk_cell HT.out, wc_get _ _ (by rw [W2_len]; omega)]
          obtain ⟨y15, hy15⟩ : ∃ c : Int, c = (W2 (bI b) n).getD (n + 1) 0 := ⟨_, rfl⟩
          obtain ⟨y2, hy2⟩ : ∃ c : Int, c = (W2 (bI b) n).getD (n + 14) 0 := ⟨_, rfl⟩
          obtain ⟨y16, hy16⟩ : ∃ c : Int, c = (W2 (bI b) n).getD n 0 := ⟨_, rfl⟩
          obtain ⟨y7, hy7⟩ : ∃ c : Int, c = (W2 (bI b) n).getD (n + 9) 0 := ⟨_, rfl⟩
          rw [← hy15] at hx15
          rw [← hy2] at hx2
          have HSF := Aside0.mk (show ∀ v : World, v.heap[w.heap.size + 1]? = some (.cells (wc (W2 (bI b) n)) 67 (0, 0)) → v.cell? ⟨w.heap.size + 1, n, none⟩ = some (.int .u32 y16) ∧ v.cell? ⟨w.heap.size + 1, n + 9, none⟩ = some (.int .u32 y7) from fun v hv => ⟨by rw [blk_cell hv, wc_get _ _ (by rw [W2_len]; omega), hy16], by rw [blk_cell hv, wc_get _ _ (by rw [W2_len]; omega), hy7]⟩)
          have HY := Aside0.mk (And.intro hy15 (And.intro hy2 (And.intro hy16 hy7)))
          clear hy15 hy2 hy16 hy7
          have i1 : (n : Int) + 1 < 64 := by omega
          have i2 : (n : Int) + 14 < 64 := by omega
          have i3 : (n : Int) < 64 := by omega
          have i4 : (n : Int) + 9 < 64 := by omega
          have i5 : (n : Int) + 16 < 64 := by omega
          have i6 : (0 : Int) ≤ n := by omega
          have i7 : 0 ≤ (n : Int) + 9 := by omega
          have i8 : 0 ≤ (n : Int) + 16 := by omega
          have i9 : ((n : Int) + 9).toNat = n + 9 := by omega
          have i10 : ((n : Int) + 16).toNat = n + 16 := by omega
          have i11 : ((n : Int) + 14).toNat = n + 14 := by omega
          have i12 : ((n : Int) + 1).toNat = n + 1 := by omega
          have i13 : 0 ≤ (n : Int) + 1 := by omega
          have i14 : 0 ≤ (n : Int) + 14 := by omega
          go_wp2_with (fail)
          have j1 : IntKind.i64.wrap (n : Int) = n := IntWalk.i64_in _ (by omega)
          have j2 : IntKind.i64.wrap ((n : Int) + 16 - 7) = n + 9 := by rw [IntWalk.i64_in _ (by omega)]; omega
          have j3 : IntKind.i64.wrap ((n : Int) + 16 - 16) = n := by rw [IntWalk.i64_in _ (by omega)]; omega
          clear hx15 hx2
          obtain ⟨v0, hv0⟩ : ∃ x, x = wr.drew := ⟨_, rfl⟩
          have HT0 := Aside0.mk (show v0.heap[w.heap.size + 1]? = some (.cells (wc (W2 (bI b) n)) 67 (0, 0)) from by rw [hv0]; exact HT.out)
          have HP0 := Aside0.mk (show K1 w2 v0 (w.heap.size + 1) from by rw [hv0]; exact HP.out.drew 1)
          have hs0 := HSF.out _ HT0.out
          refine region_ws ((0, false) :: (1, false) :: (2, false) :: (3, false) :: (4, false) :: (5, false) :: (7, false) :: (10, false) :: (11, false) :: (14, false) :: (15, false) :: (16, false) :: (17, false) :: (19, false) :: (21, false) :: (24, false) :: (25, false) :: (6, true) :: (8, true) :: (9, false) :: (12, false) :: (13, false) :: (18, false) :: (20, true) :: (22, true) :: (23, false) :: (26, false) :: (27, false) :: (28, false) :: (29, true) :: []) (fun w' : World => w'.cell? ⟨w.heap.size + 1, n, none⟩ = some (.int .u32 y16) ∧ w'.cell? ⟨w.heap.size + 1, n + 9, none⟩ = some (.int .u32 y7)) (by kernel_rfl) (by kernel_rfl) (fun _ d _ _ _ h => by cases d <;> exact h) ?_
          rw [← hv0]
          clear hv0 HT HP
          repeat (refine WS_w rfl hs0 (by rfl) (fun KK hKK => ?_); go_simp; refine hKK _ ?_; clear hKK KK)
          refine WS.l (.int .u32 y16) rfl hs0 (by rfl) (fun w0 hSw => ?_) (fun KK hKK => ?_)
          · (have hq := hSw.1; clear hs0; go_simp; try rfl)
          go_simp
          refine hKK _ ?_
          clear hKK KK
          repeat (refine WS_w rfl hs0 (by rfl) (fun KK hKK => ?_); go_simp; refine hKK _ ?_; clear hKK KK)
          refine WS.l (.int .u32 y7) rfl hs0 (by rfl) (fun w0 hSw => ?_) (fun KK hKK => ?_)
          · (have hq := hSw.2; clear hs0; go_simp; try rfl)
          go_simp
          refine hKK _ ?_
          clear hKK KK
          repeat (refine WS_w rfl hs0 (by rfl) (fun KK hKK => ?_); go_simp; refine hKK _ ?_; clear hKK KK)
          refine WS_c rfl (by rfl) (fun KK hKK => ?_)
          go_simp
          refine (turn_calls _ _ _ (by decide)).mono ?_
          rintro e v1 ⟨rfl, hb⟩
          have HT1 := Aside0.mk (blk_below HT0.out hb)
          have HP1 := Aside0.mk (K1.trans HP0.out (K1.below hb))
          have hs1 := HSF.out _ HT1.out
          clear hb
          try go_wp2_with (fail)
          refine hKK.out _ _ hs1 ?_
          clear hKK KK
          refine WS_c rfl (by rfl) (fun KK hKK => ?_)
          go_simp
          refine (turn_calls _ _ _ (by decide)).mono ?_
          rintro e v2 ⟨rfl, hb⟩
          have HT2 := Aside0.mk (blk_below HT1.out hb)
          have HP2 := Aside0.mk (K1.trans HP1.out (K1.below hb))
          have hs2 := HSF.out _ HT2.out
          clear hb
          try go_wp2_with (fail)
          refine hKK.out _ _ hs2 ?_
          clear hKK KK
          repeat (refine WS_w rfl hs2 (by rfl) (fun KK hKK => ?_); go_simp; refine hKK _ ?_; clear hKK KK)
          refine WS_c rfl (by rfl) (fun KK hKK => ?_)
          go_simp
          refine (turn_calls _ _ _ (by decide)).mono ?_
          rintro e v3 ⟨rfl, hb⟩
          have HT3 := Aside0.mk (blk_below HT2.out hb)
          have HP3 := Aside0.mk (K1.trans HP2.out (K1.below hb))
          have hs3 := HSF.out _ HT3.out
          clear hb
          try go_wp2_with (fail)
          refine hKK.out _ _ hs3 ?_
          clear hKK KK
          refine WS_c rfl (by rfl) (fun KK hKK => ?_)
          go_simp
          refine (turn_calls _ _ _ (by decide)).mono ?_
          rintro e v4 ⟨rfl, hb⟩
          have HT4 := Aside0.mk (blk_below HT3.out hb)
          have HP4 := Aside0.mk (K1.trans HP3.out (K1.below hb))
          have hs4 := HSF.out _ HT4.out
          clear hb
          try go_wp2_with (fail)
          refine hKK.out _ _ hs4 ?_
          clear hKK KK
          repeat (refine WS_w rfl hs4 (by rfl) (fun KK hKK => ?_); go_simp; refine hKK _ ?_; clear hKK KK)
          have hx0 : v4.cell? ⟨w.heap.size + 1, n + 16, none⟩ = some (.int .u32 ((W2 (bI b) n).getD (n + 16) 0)) := by rw [blk_cell HT4.out, wc_get _ _ (by rw [W2_len]; omega)]
          have hf2 := blk_frozen HT4.out (n + 16)
          refine WS_c rfl (by rfl) (fun KK hKK => ?_)
          go_simp
          have HT5 := Aside0.mk (blk_put HT4.out (n + 16) (.int .u32 (nextW (W2 (bI b) n) n)) (wc_set _ _ _))
          have HP5 := Aside0.mk (K1.seth HP4.out (n + 16) (.int .u32 (nextW (W2 (bI b) n) n)))
          have hv : IntKind.u32.wrap (IntKind.u32.wrap (IntKind.u32.wrap (y16 + bits BinOp.xor IntKind.u32 (bits BinOp.xor IntKind.u32 (rot y15 7) (rot y15 18)) (y15 / 8)) + y7) + bits BinOp.xor IntKind.u32 (bits BinOp.xor IntKind.u32 (rot y2 17) (rot y2 19)) (y2 / 1024)) = nextW (W2 (bI b) n) n := by
            rw [HY.out.1, HY.out.2.1, HY.out.2.2.1, HY.out.2.2.2]
            simp only [IntKind.wrap_u32]
            unfold nextW s0 s1 x32
            generalize bits BinOp.xor IntKind.u32 (bits BinOp.xor IntKind.u32 (rot ((W2 (bI b) n).getD (n + 1) 0) 7) (rot ((W2 (bI b) n).getD (n + 1) 0) 18)) ((W2 (bI b) n).getD (n + 1) 0 / 8) = p
            generalize bits BinOp.xor IntKind.u32 (bits BinOp.xor IntKind.u32 (rot ((W2 (bI b) n).getD (n + 14) 0) 17) (rot ((W2 (bI b) n).getD (n + 14) 0) 19)) ((W2 (bI b) n).getD (n + 14) 0 / 1024) = q
            generalize (W2 (bI b) n).getD n 0 = r
            generalize (W2 (bI b) n).getD (n + 9) 0 = r2
            clear i9 i10 i11 i12 j1 j2 j3
            omega
          rw [hv]
          obtain ⟨v5, hv5⟩ : ∃ x, x = v4.setCell ⟨w.heap.size + 1, n + 16, none⟩ (.int .u32 (nextW (W2 (bI b) n) n)) := ⟨_, rfl⟩
          rw [← hv5] at HT5 HP5 ⊢
          have hs5 : v5.cell? ⟨w.heap.size + 1, n, none⟩ = some (.int .u32 y16) ∧ v5.cell? ⟨w.heap.size + 1, n + 9, none⟩ = some (.int .u32 y7) := ⟨by rw [blk_cell HT5.out, wc_get _ _ (by rw [List.length_set, W2_len]; omega), getD_set _ _ _ _ (by rw [W2_len]; omega), if_neg (by omega), HY.out.2.2.1], by rw [blk_cell HT5.out, wc_get _ _ (by rw [List.length_set, W2_len]; omega), getD_set _ _ _ _ (by rw [W2_len]; omega), if_neg (by omega), HY.out.2.2.2]⟩
          refine hKK.out _ _ hs5 ?_
          clear hKK KK hv hv5
          refine WS.nil ?_
          go_wp2_with (fail)
          go_roundg k3
          case measure => omega
          case rel => exact ⟨n + 1, by go_num, ⟨by have := HN.out; omega⟩, ⟨HT5.out⟩, HP5⟩
    | succ k1 =>
      have hlt : decide ((t : Int) < 16) = true := decide_eq_true (by have := HK.out; omega)
      have hb1 : (t : Int) ≤ 15 := by have := HK.out; omega
      go_wp2_with (fail)
      go_loopg [5] 4 (fun kq v5 w' => ∃ j : Nat, v5 = .int .i64 (j : Int) ∧ Aside0 (j + kq = 4) ∧ Aside0 (w'.heap[w.heap.size + 1]? = some (.cells (wc ((W1 (bI b) t).set t (word (bI b) t j))) 67 (0, 0))) ∧ Aside0 (K1 w2 w' (w.heap.size + 1)))
      case atStart => exact ⟨0, by rfl, ⟨by omega⟩, ⟨by rw [W1_self (bI b) t (by omega)]; exact HT.out⟩, HP⟩
      case round =>
        obtain ⟨j, rfl, HJ, HT, HP⟩ := hrel
        cases gk with
        | zero =>
          have hlt : decide ((j : Int) < 4) = false := decide_eq_false (by have := HJ.out; omega)
          go_wp2_with (fail)
          go_roundg k1
          case measure => omega
          case rel =>
            refine ⟨t + 1, by go_num, ⟨by have := HK.out; omega⟩, ⟨?_⟩, HP⟩
            rw [← W1_succ (bI b) t (by omega)]
            have e : j = 4 := by have := HJ.out; omega
            rw [← e]
            exact HT.out
        | succ k2 =>
          have hlt : decide ((j : Int) < 4) = true := decide_eq_true (by have := HJ.out; omega)
          have hj1 : (j : Int) ≤ 3 := by have := HJ.out; omega
          have hx2 : wr.cell? ⟨w.heap.size + 1, t, none⟩ = some (.int .u32 (word (bI b) t j)) := by
            rw [blk_cell HT.out, wc_get _ _ (by rw [List.length_set, W1_len]; omega), getD_set _ _ _ _ (by rw [W1_len]; omega), if_pos rfl]
          have hf2 := blk_frozen HT.out t
          obtain ⟨x0, hx0⟩ : ∃ c : Int, c = word (bI b) t j := ⟨_, rfl⟩
          rw [← hx0] at hx2
          have HX0 := Aside0.mk hx0
          clear hx0
          have i1 : (t : Int) < 64 := by omega
          have i2 : (0 : Int) ≤ t := by omega
          have i3 : (4 * (t : Int) + (j : Int)) < (b.size : Int) := by have := HZ.out; omega
          have i4 : 0 ≤ 4 * (t : Int) + (j : Int) := by omega
          have i5 : 4 * (t : Int) + (j : Int) < 64 := by omega
          have i6 : ((4 * (t : Int) + (j : Int))).toNat = 4 * t + j := by omega
          go_wp2_with (fail)
          have v1 : IntKind.i64.wrap (4 * (t : Int)) = 4 * (t : Int) := IntWalk.i64_in _ (by omega)
          have v2 : IntKind.i64.wrap (4 * (t : Int) + (j : Int)) = 4 * (t : Int) + (j : Int) := IntWalk.i64_in _ (by omega)
          refine wp_region_still_tail 14 (by kernel_rfl) (by kernel_rfl) ?_
          simp only [List.take_succ_cons, List.take_zero, List.drop_succ_cons, List.drop_zero]
          change wpStill _ _ (wr.drewN 1) _ _ _
          repeat still_step
          refine wpStill_nil ?_
          change wpList _ _ _ _ _ (wr.drewN 1)
          go_wp2_with (fail)
          go_roundg k2
          case measure => omega
          case rel =>
            refine ⟨j + 1, by go_num, ⟨by have := HJ.out; omega⟩, ⟨blk_put (show (wr.drewN 1).heap[w.heap.size + 1]? = _ from HT.out) _ _ ?_⟩, ⟨(HP.out.drew _).seth _ _⟩⟩
            rw [wc_set, List.set_set, HX0.out, word, bI_getD _ _ (by have := HZ.out; omega), wstep_is _ _ (byte_range _)]
/-- The tables of the document's sum, as the program lays them. -/
structure Gl (w : World) : Prop where
  h : ∀ j, j < 8 → w.cell? ⟨0, j, none⟩ = some (.int .u32 (H8.getD j 0))
  k : ∀ j, j < 64 → w.cell? ⟨1, j, none⟩ = some (.int .u32 (K64.getD j 0))
theorem Gl.below {w w' : World} (g : Gl w) (hb : Below w.heap.size w w') : Gl w' :=
  ⟨fun j hj => (hb.cell (World.block_lt_of_cell? _ _ (g.h j hj))).trans (g.h j hj), fun j hj => (hb.cell (World.block_lt_of_cell? _ _ (g.k j hj))).trans (g.k j hj)⟩
set_option maxHeartbeats 8000000 in
set_option maxRecDepth 100000 in
theorem mixed_calls (w : World) (S : List Int) (b : ByteArray) (hS : S.length = 8) (hb : b.size = 64) (hg : Gl w) :
    Calls Tryd.prog 51 #[.agg (wc S), .string b] w fun e w' => e = .returned (.agg (wc (mixS S (bI b)))) ∧ Below w.heap.size w w' := by
  have HZ := Aside0.mk hb
  have HS := Aside0.mk hS
  have HG := Aside0.mk hg
  obtain ⟨cs, hcs⟩ : ∃ c, c = wc S := ⟨_, rfl⟩
  have HCS := Aside0.mk hcs
  rw [← hcs]
  clear hb hS hg hcs
  go_enter Tryd.func51, Tryd.ntmps51
  go_wp2_with (fail)
  have e8 : (.cells #[.int .u32 0, .int .u32 0, .int .u32 0, .int .u32 0, .int .u32 0, .int .u32 0, .int .u32 0, .int .u32 0] 62 : Obj) = .cells (wc (List.replicate 8 0)) 62 := by rfl
  rw [e8]
  clear e8
  obtain ⟨w2, hw2⟩ : ∃ x, x = (w.alloc (.cells cs 62)).alloc (.cells (wc (List.replicate 8 0)) 62) := ⟨_, rfl⟩
  have hs2 : w2.heap.size = w.heap.size + 2 := by rw [hw2]; simp
  have HA := Aside0.mk (show w2.heap[w.heap.size]? = some (.cells cs 62 (0, 0)) from by rw [hw2]; exact blk_alloc (blk_new _ _) _)
  have HR := Aside0.mk (show w2.heap[w.heap.size + 1]? = some (.cells (wc (List.replicate 8 0)) 62 (0, 0)) from by
    rw [hw2, show w.heap.size + 1 = (w.alloc (.cells cs 62)).heap.size from by simp]; exact blk_new _ _)
  have HB2 := Aside0.mk (show Below w.heap.size w w2 from by rw [hw2]; exact below_alloc (below_alloc (Below.refl _ _) _) _)
  have HS2 := Aside0.mk hs2
  rw [← hw2]
  clear hw2 hs2
  refine (plan_calls w2 b HZ.out).mono ?_
  rintro e w3 ⟨rfl, hb3⟩
  have HA3 := Aside0.mk (blk_below HA.out hb3)
  have HR3 := Aside0.mk (blk_below HR.out hb3)
  have HS3 := Aside0.mk (show w.heap.size + 2 ≤ w3.heap.size from by have := HS2.out; have := hb3.size; omega)
  have HB3 := Aside0.mk (below_weaken HB2.out HB2.out.size hb3)
  clear hb3 HA HR HB2 HS2
  obtain ⟨W, hW⟩ : ∃ W, W = W2 (bI b) 48 := ⟨_, rfl⟩
  have HW := Aside0.mk hW
  have HWL := Aside0.mk (show W.length = 64 from by rw [hW, W2_len])
  rw [← hW]
  clear hW
  go_wp2_with (first
    | (refine wpList_alloc' rfl 67 rfl (wc (List.replicate 64 0)) (by kernel_rfl) ?_; intro w4 hw4; have HW4 := Aside0.mk hw4; clear hw4)
    | (refine wpList_store_row' rfl 67 (.tmp 5) (.tmp 12) rfl w3.heap.size rfl (wc W) rfl (wc (List.replicate 64 0)) 67 (by rw [HW4.out]; exact blk_new _ _) (by rw [wc_size, wc_size, HWL.out]; rfl) (by rw [wc_size, HWL.out]; kernel_rfl) (oneCell_wc _) ?_; intro w5 hw5;
       have HP5 := Aside0.mk (show w5.heap[w3.heap.size]? = some (.cells (wc W) 67 (0, 0)) from by rw [hw5]; exact setRow_heap _ _ _ _ _ _ (by rw [HW4.out]; exact blk_new _ _));
       have hb5 : Below w3.heap.size w3 w5 := (by rw [hw5, HW4.out, setRow_new _ _ _ _ _ rfl]; exact below_alloc (Below.refl _ _) _);
       have HS5 := Aside0.mk (show w5.heap.size = w3.heap.size + 1 from by rw [hw5, HW4.out, setRow_new _ _ _ _ _ rfl]; simp);
       have HA5 := Aside0.mk (blk_below HA3.out hb5); have HR5 := Aside0.mk (blk_below HR3.out hb5); have HB5 := Aside0.mk (below_weaken HB3.out HB3.out.size hb5); clear hb5 hw5 HA3 HR3 HB3)
    | (refine wpList_load_row rfl 62 (.tmp 2) rfl w.heap.size rfl 62 cs (0, 0) _ HA5.out Tryd.underlying62 rfl (by rw [HCS.out, wc_size, HS.out]; kernel_rfl) ?_)
    | (refine wpList_alloc' rfl 62 rfl (wc (List.replicate 8 0)) (by kernel_rfl) ?_; intro w6 hw6; have HW6 := Aside0.mk hw6; clear hw6)
    | (refine wpList_store_row' rfl 62 (.tmp 6) (.tmp 13) rfl w5.heap.size rfl cs rfl (wc (List.replicate 8 0)) 62 (by rw [HW6.out]; exact blk_new _ _) (by rw [HCS.out, wc_size, wc_size, HS.out]; rfl) (by rw [HCS.out, wc_size, HS.out]; kernel_rfl) (by rw [HCS.out]; exact oneCell_wc _) ?_; intro w7 hw7;
       have HV7 := Aside0.mk (show w7.heap[w5.heap.size]? = some (.cells cs 62 (0, 0)) from by rw [hw7]; exact setRow_heap _ _ _ _ _ _ (by rw [HW6.out]; exact blk_new _ _));
       have hb7 : Below w5.heap.size w5 w7 := (by rw [hw7, HW6.out, setRow_new _ _ _ _ _ rfl]; exact below_alloc (Below.refl _ _) _);
       have HA7 := Aside0.mk (blk_below HA5.out hb7); have HR7 := Aside0.mk (blk_below HR5.out hb7); have HP7 := Aside0.mk (blk_below HP5.out hb7); have HB7 := Aside0.mk (below_weaken HB5.out HB5.out.size hb7); clear hb7 hw7 HA5 HR5 HP5 HB5))
  have HG7 := Aside0.mk (HG.out.below HB7.out)
  obtain ⟨bw, hbw⟩ : ∃ x, x = w3.heap.size := ⟨_, rfl⟩
  obtain ⟨bv, hbv⟩ : ∃ x, x = w5.heap.size := ⟨_, rfl⟩
  have HNE := Aside0.mk (show w.heap.size + 2 ≤ bw ∧ bv = bw + 1 from by have := HS3.out; have := HS5.out; omega)
  rw [← hbw] at HP7 ⊢
  rw [← hbv] at HV7 ⊢
  have HV := Aside0.mk (show w7.heap[bv]? = some (.cells (wc (vs W (ofL S) 0).l) 62 (0, 0)) from by
    rw [HV7.out, HCS.out]
    have e : S = (ofL S).l := by
      have hl := HS.out
      match S, hl with
      | [a, b, c, d, e, f, g, h], _ => rfl
    rw [show vs W (ofL S) 0 = ofL S from rfl, ← e])
  clear hbw hbv HS3 HS5 HV7
  go_loopg [7] 64 (fun kq q7 w' => ∃ t : Nat, q7 = .int .i64 (t : Int) ∧ Aside0 (t + kq = 64) ∧ Aside0 (w'.heap[bv]? = some (.cells (wc (vs W (ofL S) t).l) 62 (0, 0))) ∧ Aside0 (K1 w7 w' bv))
  case atStart => exact ⟨0, by rfl, ⟨by omega⟩, HV, ⟨K1.refl _ _⟩⟩
  case round =>
    obtain ⟨t, rfl, HK, HV, HP⟩ := hrel
    cases gk with
    | zero =>
      have hlt : decide ((t : Int) < 64) = false := decide_eq_false (by have := HK.out; omega)
      go_wp2_with (fail)
      have HV64 := Aside0.mk (show wr.heap[bv]? = some (.cells (wc (vs W (ofL S) 64).l) 62 (0, 0)) from by have e : t = 64 := (by have := HK.out; omega); rw [e] at HV; exact HV.out)
      obtain ⟨V, hV⟩ : ∃ V, V = (vs W (ofL S) 64).l := ⟨_, rfl⟩
      rw [← hV] at HV64
      have HVE := Aside0.mk hV
      have HVL := Aside0.mk (show V.length = 8 from by rw [hV]; rfl)
      have HA0 := Aside0.mk (show Aside0 (w7.heap[w.heap.size]? = some (.cells (wc S) 62 (0, 0))) from ⟨by rw [← HCS.out]; exact HA7.out⟩).out
      clear hV HV
      go_loopg [10] 8 (fun kq q10 w' => ∃ j : Nat, q10 = .int .i64 (j : Int) ∧ Aside0 (j + kq = 8) ∧ Aside0 (w'.heap[bv]? = some (.cells (wc (addS V S j)) 62 (0, 0))) ∧ Aside0 (K1 w7 w' bv))
      case atStart => exact ⟨0, by rfl, ⟨by omega⟩, ⟨by rw [addS_zero V _ HVL.out]; exact HV64.out⟩, HP⟩
      case round =>
        obtain ⟨j, rfl, HJ, HV, HP⟩ := hrel
        cases gk with
        | zero =>
          have hlt : decide ((j : Int) < 8) = false := decide_eq_false (by have := HJ.out; omega)
          have HV8 := Aside0.mk (show wr.heap[bv]? = some (.cells (wc (mixS S (bI b))) 62 (0, 0)) from by
            have e : j = 8 := by have := HJ.out; omega
            rw [e] at HV
            have e2 : addS V S 8 = mixS S (bI b) := by
              unfold mixS addS
              rw [← HW.out, ← HVE.out]
              refine List.map_congr_left fun i hi => ?_
              have hi8 := List.mem_range.1 hi
              rw [if_pos hi8, if_pos hi8]; unfold a32; rw [Int.add_comm]
            rw [← e2]; exact HV.out)
          have HR8 := Aside0.mk (show wr.heap[w.heap.size + 1]? = some (.cells (wc (List.replicate 8 0)) 62 (0, 0)) from (HP.out.keep _ (blk_lt HR7.out) (by have := HNE.out; omega)).trans HR7.out)
          go_wp2_with (first
            | (refine wpList_load_row rfl 62 (.tmp 6) rfl bv rfl 62 (wc (mixS S (bI b))) (0, 0) _ HV8.out Tryd.underlying62 rfl (by rw [wc_size, mixS_len]; kernel_rfl) ?_)
            | (refine wpList_store_row' rfl 62 (.tmp 4) (.tmp 115) rfl (w.heap.size + 1) rfl (wc (mixS S (bI b))) rfl (wc (List.replicate 8 0)) 62 HR8.out (by rw [wc_size, wc_size, mixS_len]; rfl) (by rw [wc_size, mixS_len]; kernel_rfl) (oneCell_wc _) ?_; intro w8 hw8; have HW8 := Aside0.mk hw8; clear hw8))
          refine bodyPost_ret (results_cell_row rfl _ _ (w.heap.size + 1) 62 (wc (mixS S (bI b))) (0, 0) _ rfl (by rw [HW8.out]; exact setRow_heap _ _ _ _ _ _ HR8.out) Tryd.underlying62 rfl (by rw [wc_size, mixS_len]; kernel_rfl)) rfl ⟨rfl, ?_⟩
          rw [HW8.out]
          have k2 := HP.out
          have k3 := HB7.out
          have h1 := HNE.out
          refine ⟨k2.os.trans k3.os, k2.tape.trans k3.tape, k2.output.trans k3.output, by simp; exact Nat.le_trans k3.size k2.size, fun i hi => ?_⟩
          rw [setRow_other _ _ _ _ (by omega), k2.keep i (Nat.lt_of_lt_of_le hi k3.size) (by omega)]
          exact k3.block i hi
        | succ k2 =>
          have hjl : j < 8 := by have := HJ.out; omega
          have hlt : decide ((j : Int) < 8) = true := decide_eq_true (by omega)
          have i1 : (j : Int) < 8 := by omega
          have i2 : (0 : Int) ≤ j := Int.natCast_nonneg _
          have hx1 : wr.cell? ⟨bv, j, none⟩ = some (.int .u32 ((addS V S j).getD j 0)) := by rw [blk_cell HV.out, wc_get _ _ (by rw [addS_len]; exact hjl)]
          have hx2 : wr.cell? ⟨w.heap.size, j, none⟩ = some (.int .u32 (S.getD j 0)) := by rw [blk_cell ((HP.out.keep _ (blk_lt HA0.out) (by have := HNE.out; omega)).trans HA0.out), wc_get _ _ (by rw [HS.out]; exact hjl)]
          have hf1 := blk_frozen HV.out j
          obtain ⟨y1, hy1⟩ : ∃ c : Int, c = (addS V S j).getD j 0 := ⟨_, rfl⟩
          obtain ⟨y2, hy2⟩ : ∃ c : Int, c = S.getD j 0 := ⟨_, rfl⟩
          rw [← hy1] at hx1
          rw [← hy2] at hx2
          have HY := Aside0.mk (And.intro hy1 hy2)
          have HJL := Aside0.mk hjl
          clear hy1 hy2 hjl
          go_wp2_with (fail)
          refine wp_region_still_tail 9 (by kernel_rfl) (by kernel_rfl) ?_
          simp only [List.take_succ_cons, List.take_zero, List.drop_succ_cons, List.drop_zero]
          change wpStill _ _ (wr.drewN 1) _ _ _
          repeat still_step
          refine wpStill_nil ?_
          change wpList _ _ _ _ _ (wr.drewN 1)
          go_wp2_with (fail)
          go_roundg k2
          case measure => omega
          case rel =>
            refine ⟨j + 1, by go_num, ⟨by have := HJ.out; omega⟩, ⟨blk_put (show (wr.drewN 1).heap[bv]? = _ from HV.out) _ _ ?_⟩, ⟨(HP.out.drew _).seth _ _⟩⟩
            rw [← addS_succ V S j HJL.out, ← HY.out.1, ← HY.out.2, wc_set]
            rfl
    | succ k1 =>
      have htl : t < 64 := by have := HK.out; omega
      have hlt : decide ((t : Int) < 64) = true := decide_eq_true (by omega)
      have i1 : (t : Int) < 64 := by omega
      have i2 : (0 : Int) ≤ t := Int.natCast_nonneg _
      obtain ⟨v, hv⟩ : ∃ v, v = vs W (ofL S) t := ⟨_, rfl⟩
      rw [← hv] at HV
      have HVS := Aside0.mk hv
      clear hv
      have HCV := Aside0.mk (show ∀ u : World, Below wr.heap.size wr u → ∀ j x, (wc v.l)[j]? = some x → u.cell? ⟨bv, j, none⟩ = some x from fun u hu j x hx => by rw [blk_cell (blk_below HV.out hu)]; exact hx)
      obtain ⟨yk, hyk⟩ : ∃ y, y = K64.getD t 0 := ⟨_, rfl⟩
      obtain ⟨yw, hyw⟩ : ∃ y, y = W.getD t 0 := ⟨_, rfl⟩
      have hck : wr.cell? ⟨1, t, none⟩ = some (.int .u32 yk) := by
        have h := HG7.out.k t htl
        have hne : (1 : Nat) ≠ bv := by have h2 := World.block_lt_of_cell? _ _ (HG.out.k 0 (by decide)); have h3 := HNE.out; simp at h2; omega
        rw [hyk, ← h]
        exact World.cell?_of_block (a := ⟨1, t, none⟩) (HP.out.keep 1 (World.block_lt_of_cell? _ _ h) hne)
      have hcw : wr.cell? ⟨bw, t, none⟩ = some (.int .u32 yw) := by
        rw [blk_cell ((HP.out.keep bw (blk_lt HP7.out) (by have := HNE.out; omega)).trans HP7.out), wc_get _ _ (by rw [HWL.out]; exact htl), hyw]
      have HY := Aside0.mk (And.intro hyk hyw)
      clear hyk hyw htl
      go_wp2_with (fail)
      have HCV0 := HCV.out wr (Below.refl _ _)
      have k0 := cell_regrown hck
      have k1' := cell_regrown hcw
      have k4 := cell_regrown (HCV0 4 (.int .u32 v.e) (by rfl))
      have k5 := cell_regrown (HCV0 5 (.int .u32 v.f) (by rfl))
      have k6 := cell_regrown (HCV0 6 (.int .u32 v.g) (by rfl))
      have k7 := cell_regrown (HCV0 7 (.int .u32 v.i) (by rfl))
      have cM : ∀ (x k : Int) (d : Nat) (os : Array Obj), (1 ≤ k ∧ k ≤ 31) → Calls Tryd.prog 60 #[.int .u32 x, .int .i64 k] (Go.Sort.grow (redrawn wr d) os) fun e w'' => e = .returned (.int .u32 (rot x k.toNat)) ∧ ∃ p : Regrown, w'' = Go.Sort.grow (redrawn wr p.d) p.os := fun x k d os hk => Calls.regrown_of (turn_calls x k _ hk)
      clear hck hcw HCV0
      refine region_wq (by kernel_rfl) (by kernel_rfl) ?_
      repeat (refine WQ.step (fun KK hKK => ?_); go_simp; first | (refine hKK _ ?_; clear hKK KK) | (apply Exists.intro; refine ⟨fun _ => ?_, hKK _ ?_⟩; (exact cM _ _ _ _ (by decide)); clear hKK KK))
      refine WQ.nil ?_
      intro _ hw'
      obtain ⟨⟨dq, osq⟩, hw''⟩ := hw'
      subst hw''
      have hb1 := below_regrown wr dq osq
      obtain ⟨v1, hv1⟩ : ∃ x, x = Go.Sort.grow (redrawn wr dq) osq := ⟨_, rfl⟩
      rw [← hv1] at hb1 ⊢
      have HCV1 := HCV.out v1 hb1
      have HB1 := Aside0.mk hb1
      clear hv1 k0 k1' k4 k5 k6 k7 cM hb1
      have he1 : IntKind.u32.wrap (IntKind.u32.wrap (IntKind.u32.wrap (IntKind.u32.wrap (v.i + bits BinOp.xor IntKind.u32 (bits BinOp.xor IntKind.u32 (rot v.e 6) (rot v.e 11)) (rot v.e 25)) + bits BinOp.xor IntKind.u32 (bits BinOp.and IntKind.u32 v.e v.f) (bits BinOp.and IntKind.u32 (bits BinOp.xor IntKind.u32 (if IntKind.u32.signed = true then -1 else IntKind.u32.max) v.e) v.g)) + yk) + yw) = one v yk yw := by
        rw [show (if IntKind.u32.signed = true then (-1 : Int) else IntKind.u32.max) = IntKind.u32.max from rfl]
        simp only [IntKind.wrap_u32]
        unfold one S1 ch x32 n32
        generalize bits BinOp.xor IntKind.u32 (bits BinOp.xor IntKind.u32 (rot v.e 6) (rot v.e 11)) (rot v.e 25) = p
        generalize bits BinOp.xor IntKind.u32 (bits BinOp.and IntKind.u32 v.e v.f) (bits BinOp.and IntKind.u32 (bits BinOp.xor IntKind.u32 IntKind.u32.max v.e) v.g) = q
        generalize v.i = r
        clear i1 i2 hlt
        omega
      rw [he1]
      obtain ⟨x1, hx1⟩ : ∃ x1, x1 = one v yk yw := ⟨_, rfl⟩
      rw [← hx1]
      have HX1 := Aside0.mk hx1
      clear he1 hx1
      have k0 := cell_regrown (HCV1 0 (.int .u32 v.a) (by rfl))
      have k1' := cell_regrown (HCV1 1 (.int .u32 v.b) (by rfl))
      have k2 := cell_regrown (HCV1 2 (.int .u32 v.c) (by rfl))
      have cM : ∀ (x k : Int) (d : Nat) (os : Array Obj), (1 ≤ k ∧ k ≤ 31) → Calls Tryd.prog 60 #[.int .u32 x, .int .i64 k] (Go.Sort.grow (redrawn v1 d) os) fun e w'' => e = .returned (.int .u32 (rot x k.toNat)) ∧ ∃ p : Regrown, w'' = Go.Sort.grow (redrawn v1 p.d) p.os := fun x k d os hk => Calls.regrown_of (turn_calls x k _ hk)
      clear HCV1
      go_wp2_with (fail)
      refine region_wq (by kernel_rfl) (by kernel_rfl) ?_
      repeat (refine WQ.step (fun KK hKK => ?_); go_simp; first | (refine hKK _ ?_; clear hKK KK) | (apply Exists.intro; refine ⟨fun _ => ?_, hKK _ ?_⟩; (exact cM _ _ _ _ (by decide)); clear hKK KK))
      refine WQ.nil ?_
      intro _ hw'
      obtain ⟨⟨dq, osq⟩, hw''⟩ := hw'
      subst hw''
      have hb2 := below_weaken HB1.out HB1.out.size (below_regrown v1 dq osq)
      obtain ⟨v2, hv2⟩ : ∃ x, x = Go.Sort.grow (redrawn v1 dq) osq := ⟨_, rfl⟩
      rw [← hv2] at hb2 ⊢
      have HV2 := Aside0.mk (blk_below HV.out hb2)
      have HCV2 := HCV.out v2 hb2
      have HB2 := Aside0.mk hb2
      clear hv2 k0 k1' k2 cM hb2
      have k0 := HCV2 0 (.int .u32 v.a) (by rfl)
      have k1' := HCV2 1 (.int .u32 v.b) (by rfl)
      have k2 := HCV2 2 (.int .u32 v.c) (by rfl)
      have k3 := HCV2 3 (.int .u32 v.d) (by rfl)
      have k4 := HCV2 4 (.int .u32 v.e) (by rfl)
      have k5 := HCV2 5 (.int .u32 v.f) (by rfl)
      have k6 := HCV2 6 (.int .u32 v.g) (by rfl)
      clear HCV2
      have he2 : IntKind.u32.wrap (bits BinOp.xor IntKind.u32 (bits BinOp.xor IntKind.u32 (rot v.a 2) (rot v.a 13)) (rot v.a 22) + bits BinOp.xor IntKind.u32 (bits BinOp.xor IntKind.u32 (bits BinOp.and IntKind.u32 v.a v.b) (bits BinOp.and IntKind.u32 v.a v.c)) (bits BinOp.and IntKind.u32 v.b v.c)) = two v := by
        simp only [IntKind.wrap_u32]; rfl
      rw [he2]
      obtain ⟨x2, hx2⟩ : ∃ x2, x2 = two v := ⟨_, rfl⟩
      rw [← hx2]
      have HX2 := Aside0.mk hx2
      have hcs : (#[.int .u32 (IntKind.u32.wrap (x1 + x2)), .int .u32 v.a, .int .u32 v.b, .int .u32 v.c, .int .u32 (IntKind.u32.wrap (v.d + x1)), .int .u32 v.e, .int .u32 v.f, .int .u32 v.g] : Array Value) = wc (rnd v yk yw).l := by
        rw [IntKind.wrap_u32, IntKind.wrap_u32, hx2, HX1.out]; rfl
      have HCQ := Aside0.mk hcs
      clear he2 hx2 hcs
      go_wp2_with (first
        | (refine wpList_store_row' rfl 62 (.tmp 6) (.tmp 101) rfl bv rfl #[.int .u32 (IntKind.u32.wrap (x1 + x2)), .int .u32 v.a, .int .u32 v.b, .int .u32 v.c, .int .u32 (IntKind.u32.wrap (v.d + x1)), .int .u32 v.e, .int .u32 v.f, .int .u32 v.g] rfl (wc v.l) 62 HV2.out (by rfl) (by kernel_rfl) (by rw [HCQ.out]; exact oneCell_wc _) ?_; intro w5 hw5;
           have HV5 := Aside0.mk (show w5.heap[bv]? = some (.cells (wc (rnd v yk yw).l) 62 (0, 0)) from by rw [hw5, HCQ.out]; exact setRow_heap _ _ _ _ _ _ HV2.out);
           have HP5 := Aside0.mk (show K1 w7 w5 bv from by rw [hw5]; exact K1.row (K1.trans HP.out (K1.below HB2.out)) _); clear hw5))
      go_roundg k1
      case measure => omega
      case rel =>
        refine ⟨t + 1, by go_num, ⟨by have := HK.out; omega⟩, ⟨?_⟩, HP5⟩
        have h := HV5.out
        rw [HVS.out, HY.out.1, HY.out.2] at h
        exact h
end Go.Proofs.YtcghicmdphfodaaDoor.Sha
