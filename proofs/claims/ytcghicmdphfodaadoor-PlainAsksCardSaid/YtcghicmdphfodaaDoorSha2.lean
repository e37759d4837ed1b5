/- The walks of bits.RotateLeft32 (at the turns that are asked) and of (*sha.Hash).turn: what they answer, and that other memory stays. No condition beyond those that each theorem names. -/
import Derived.Test.YtcghicmdphfodaaDoorSha1
set_option linter.unusedVariables false
set_option linter.unusedSimpArgs false
namespace Go.Proofs.YtcghicmdphfodaaDoor.Sha
open Go.RowKit Go.Proofs.YtcghicmdphfodaaDoorW.PrintWords Go.Proofs.YtcghicmdphfodaaDoorW.PrintLast Go.Proofs.YtcghicmdphfodaaDoorW.PrintMore
set_option maxHeartbeats 1000000 in
theorem rotc (x k : Int) (n : Nat) (w : World) (h1 : Go.bits .and .u64 (IntKind.u64.wrap k) 31 = (32 - n : Int)) (hn : 1 ≤ n ∧ n ≤ 31) :
    Calls Tryd.prog 61 #[.int .u32 x, .int .i64 k] w fun e w' => e = .returned (.int .u32 (rot x n)) ∧ w = w' := by
  obtain ⟨s, hs⟩ : ∃ s : Int, s = 32 - n := ⟨_, rfl⟩
  obtain ⟨r, hr⟩ : ∃ s : Int, s = n := ⟨_, rfl⟩
  rw [← hs] at h1
  have h0 : 0 ≤ s ∧ s ≤ 32 ∧ 0 ≤ r ∧ r ≤ 32 := by omega
  have h2 : IntKind.u64.wrap (32 - s) = r := by rw [IntWalk.u64_in _ (by omega)]; omega
  have HR := Aside0.mk (And.intro hs (And.intro hr hn))
  obtain ⟨p, hp⟩ : ∃ p : Nat, p = s.toNat := ⟨_, rfl⟩
  obtain ⟨q, hq⟩ : ∃ p : Nat, p = r.toNat := ⟨_, rfl⟩
  have HP := Aside0.mk (And.intro hp hq)
  have h3 : min s.toNat 32 = p := by omega
  have h4 : min r.toNat 32 = q := by omega
  have h5 : (0 ≤ s) = True := eq_true h0.1
  have h6 : (0 ≤ r) = True := eq_true h0.2.2.1
  clear hs hr hn hp hq h0
  go_enter Tryd.func61, Tryd.ntmps61
  go_wp2
  go_ret
  have e1 : p = 32 - n := by have := HR.out; have := HP.out; omega
  have e2 : q = n := by have := HR.out; have := HP.out; omega
  exact ⟨by rw [e1, e2]; rfl, rfl⟩
theorem rotS (x k : Int) (n : Nat) (w : World) (h1 : Go.bits .and .u64 (IntKind.u64.wrap k) 31 = (32 - n : Int)) (hn : 1 ≤ n ∧ n ≤ 31) :
    Calls Tryd.prog 61 #[.int .u32 x, .int .i64 k] w fun e w' => e = .returned (.int .u32 (rot x n)) ∧ w' = w := (rotc x k n w h1 hn).mono fun _ _ h => ⟨h.1, h.2.symm⟩
theorem rot_all : ∀ n : Fin 32, 1 ≤ n.val → Go.bits .and .u64 (IntKind.u64.wrap (-(n.val : Int))) 31 = (32 - n.val : Int) := by decide +kernel
theorem rotG (x k : Int) (w : World) (h : -31 ≤ k ∧ k ≤ -1) :
    Calls Tryd.prog 61 #[.int .u32 x, .int .i64 k] w fun e w' => e = .returned (.int .u32 (rot x (-k).toNat)) ∧ w' = w := by
  have h1 := rot_all ⟨(-k).toNat, by omega⟩ (by show 1 ≤ (-k).toNat; omega)
  simp only [] at h1
  refine rotS x k (-k).toNat w ?_ (by omega)
  rw [show (-((-k).toNat : Int)) = k from by omega] at h1
  exact h1
set_option maxRecDepth 100000 in
theorem idx8 (a b c d e f g i : Int) (j : Nat) (W : World) (hj : j < 8) : (Instr.index 62 (.agg #[.int .u32 a, .int .u32 b, .int .u32 c, .int .u32 d, .int .u32 e, .int .u32 f, .int .u32 g, .int .u32 i]) (.int .i64 (j : Int))).run Tryd.prog W = .ok (.int .u32 ([a, b, c, d, e, f, g, i].getD j 0)) W := by
  match j, hj with
  | 0, _ => rfl
  | 1, _ => rfl
  | 2, _ => rfl
  | 3, _ => rfl
  | 4, _ => rfl
  | 5, _ => rfl
  | 6, _ => rfl
  | 7, _ => rfl
  | n + 8, h => exact absurd h (by omega)
theorem cut4 (hb t : Nat) (W : World) (h : t ≤ 15) : (Instr.sliceAt 64 (.pointer (some ⟨hb, 8, none⟩)) (some (.int .i64 (4 * (t : Int)))) (some (.int .i64 (4 * (t : Int) + 4))) none).run Tryd.prog W = .ok (.slice (some ⟨hb, 8 + 4 * t, none⟩) 4 (64 - 4 * t)) W := by
  have h1 : (4 * (t : Int)).toNat = 4 * t := by omega
  have h2 : (4 * (t : Int) + 4).toNat = 4 * t + 4 := by omega
  have h3 : 0 ≤ 4 * (t : Int) + 4 ∧ 4 * (t : Int) + 4 ≤ ((64 : Nat) : Int) := by omega
  have h4 : 0 ≤ 4 * (t : Int) ∧ 4 * (t : Int) ≤ ((4 * t + 4 : Nat) : Int) := by omega
  have h5 : 4 * t + 4 - 4 * t = 4 := by omega
  have h6 : ¬ (64 = 4 * t) := by omega
  have hz : ∀ w, (sizeOf 5).run Tryd.prog w = .ok 1 w := fun w => by kernel_rfl
  have hs1 : (Instr.sliceBound (.int .i64 (4 * (t : Int) + 4)) 64 .sliceAlen).run Tryd.prog W = .ok (4 * t + 4) W := by
    simp only [Instr.sliceBound, asIntOf, pure_bind, if_pos h3, h2]; rfl
  have hs2 : (Instr.sliceBound (.int .i64 (4 * (t : Int))) (4 * t + 4) .sliceB).run Tryd.prog W = .ok (4 * t) W := by
    simp only [Instr.sliceBound, asIntOf, pure_bind, if_pos h4, h1]; rfl
  simp only [Instr.sliceAt, Instr.sureAddr, Instr.sliceBounds, Sem.run_bind, run_underlying Tryd.underlying64, Result.andThen_ok, Sem.run_pure, hs1, hs2, Option.isSome_none, Bool.false_eq_true, if_false, hz, h5, if_neg h6]
  unfold Addr.add
  by_cases e : 4 * t * 1 = 0
  · have : t = 0 := by omega
    subst this; rfl
  · rw [if_neg e, Nat.mul_one]
/-- The three blocks of a turn. -/
structure TB (w : World) (hb kb wb : Nat) (S B : List Int) (f z : Int) (W : List Int) : Prop where
  h : w.heap[hb]? = some (.cells (hc S B f z) 66 (0, 0))
  k : w.heap[kb]? = some (.cells (wc K64) 67 (0, 0))
  v : w.heap[wb]? = some (.cells (wc W) 67 (0, 0))
/-- All other blocks stay. -/
structure Kp (w w' : World) (hb wb : Nat) : Prop where
  size : w.heap.size ≤ w'.heap.size
  keep : ∀ k, k < w.heap.size → k ≠ hb → k ≠ wb → w'.heap[k]? = w.heap[k]?
  os : w'.os = w.os
  tape : w'.tape = w.tape
  output : w'.output = w.output
theorem Kp.refl (w : World) (hb wb : Nat) : Kp w w hb wb := ⟨Nat.le_refl _, fun _ _ _ _ => rfl, rfl, rfl, rfl⟩
theorem Kp.setv {w w' : World} {hb wb : Nat} (p : Kp w w' hb wb) (i : Nat) (u : Value) : Kp w (w'.setCell ⟨wb, i, none⟩ u) hb wb :=
  ⟨by simpa using p.size, fun k h1 h2 h3 => (Below.heap_setCell _ _ _ _ h3).trans (p.keep k h1 h2 h3), p.os, p.tape, p.output⟩
theorem Kp.seth {w w' : World} {hb wb : Nat} (p : Kp w w' hb wb) (i : Nat) (u : Value) : Kp w (w'.setCell ⟨hb, i, none⟩ u) hb wb :=
  ⟨by simpa using p.size, fun k h1 h2 h3 => (Below.heap_setCell _ _ _ _ h2).trans (p.keep k h1 h2 h3), p.os, p.tape, p.output⟩
theorem Kp.drew {w w' : World} {hb wb : Nat} (p : Kp w w' hb wb) (n : Nat) : Kp w (w'.drewN n) hb wb := ⟨p.size, p.keep, p.os, p.tape, p.output⟩
theorem TB.drew {w : World} {hb kb wb : Nat} {S B W : List Int} {f z : Int} (h : TB w hb kb wb S B f z W) (n : Nat) : TB (w.drewN n) hb kb wb S B f z W := ⟨h.h, h.k, h.v⟩
set_option maxHeartbeats 2000000 in
set_option maxRecDepth 100000 in
theorem turn (w : World) (hb kb : Nat) (S B : List Int) (f z : Int) (hh : w.heap[hb]? = some (.cells (hc S B f z) 66 (0, 0))) (hk : w.heap[kb]? = some (.cells (wc K64) 67 (0, 0))) (hS : S.length = 8) (hB : B.length = 64) :
    Calls Tryd.prog 53 #[.pointer (some ⟨hb, 0, none⟩), .pointer (some ⟨kb, 0, none⟩)] w fun e w' => e = .returned (.tuple #[]) ∧ w'.heap[hb]? = some (.cells (hc (mixS S B) B 0 z) 66 (0, 0)) ∧ Kp w w' hb w.heap.size := by
  have HS := Aside0.mk hS
  have HB := Aside0.mk hB
  have hwb : (w.alloc (.cells (wc (List.replicate 64 0)) 67)).heap[w.heap.size]? = some (.cells (wc (List.replicate 64 0)) 67 (0, 0)) := blk_new w _
  have HT0 := Aside0.mk (show TB (w.alloc (.cells (wc (List.replicate 64 0)) 67)) hb kb w.heap.size S B f z (List.replicate 64 0) from ⟨blk_alloc hh _, blk_alloc hk _, hwb⟩)
  have HLT := Aside0.mk (And.intro (blk_lt hh) (blk_lt hk))
  have HNE := Aside0.mk (blk_ne hh hk (by decide))
  clear hh hk hS hB hwb
  go_enter Tryd.func53, Tryd.ntmps53
  go_wp2_with (fail)
  obtain ⟨wA, hwA⟩ : ∃ x : World, x = w.alloc (.cells (wc (List.replicate 64 0)) 67) := ⟨_, rfl⟩
  rw [← hwA] at HT0
  have e0 : (w.alloc (.cells (wc (List.replicate 64 0)) 67)) = w.alloc (.cells #[.int .u32 0, .int .u32 0, .int .u32 0, .int .u32 0, .int .u32 0, .int .u32 0, .int .u32 0, .int .u32 0, .int .u32 0, .int .u32 0, .int .u32 0, .int .u32 0, .int .u32 0, .int .u32 0, .int .u32 0, .int .u32 0, .int .u32 0, .int .u32 0, .int .u32 0, .int .u32 0, .int .u32 0, .int .u32 0, .int .u32 0, .int .u32 0, .int .u32 0, .int .u32 0, .int .u32 0, .int .u32 0, .int .u32 0, .int .u32 0, .int .u32 0, .int .u32 0, .int .u32 0, .int .u32 0, .int .u32 0, .int .u32 0, .int .u32 0, .int .u32 0, .int .u32 0, .int .u32 0, .int .u32 0, .int .u32 0, .int .u32 0, .int .u32 0, .int .u32 0, .int .u32 0, .int .u32 0, .int .u32 0, .int .u32 0, .int .u32 0, .int .u32 0, .int .u32 0, .int .u32 0, .int .u32 0, .int .u32 0, .int .u32 0, .int .u32 0, .int .u32 0, .int .u32 0, .int .u32 0, .int .u32 0, .int .u32 0, .int .u32 0, .int .u32 0] 67) := by rfl
  rw [e0] at hwA
  rw [← hwA]
  clear e0
  have HWA := Aside0.mk hwA
  clear hwA
  go_loopg [24] 16 (fun kq v24 w' => ∃ t : Nat, v24 = .int .i64 (t : Int) ∧ Aside0 (t + kq = 16) ∧ Aside0 (TB w' hb kb w.heap.size S B f z (W1 B t)) ∧ Aside0 (Kp wA w' hb w.heap.size))
  case atStart => exact ⟨0, by rfl, ⟨by omega⟩, HT0, ⟨⟨Nat.le_refl _, fun _ _ _ _ => rfl, rfl, rfl, rfl⟩⟩⟩
  case round =>
    obtain ⟨t, rfl, HK, HT, HP⟩ := hrel
    cases gk with
    | zero =>
      have hlt : decide ((t : Int) < 16) = false := decide_eq_false (by have := HK.out; omega)
      go_wp2_with (fail)
      have HT16 := Aside0.mk (show TB wr hb kb w.heap.size S B f z (W2 B 0) from by have e : t = 16 := (by have := HK.out; omega); rw [e] at HT; exact HT.out)
      clear HT
      obtain ⟨wB, hwB⟩ : ∃ x : World, x = wr := ⟨_, rfl⟩
      subst hwB
      go_loopg [8] 48 (fun kq v8 w' => ∃ n : Nat, v8 = .int .i64 ((n : Int) + 16) ∧ Aside0 (n + kq = 48) ∧ Aside0 (TB w' hb kb w.heap.size S B f z (W2 B n)) ∧ Aside0 (Kp wA w' hb w.heap.size))
      case atStart => exact ⟨0, by rfl, ⟨by omega⟩, HT16, HP⟩
      case round =>
        obtain ⟨n, rfl, HN, HT, HP⟩ := hrel
        cases gk with
        | zero =>
          have hlt : decide ((n : Int) + 16 < 64) = false := decide_eq_false (by have := HN.out; omega)
          have hb2 : (n : Int) ≤ 48 := by have := HN.out; omega
          go_wp2_with (fail)
          have hs0 : wr.cell? ⟨hb, 0, none⟩ = some (.int .u32 (S.getD 0 0)) := by rw [blk_cell HT.out.h]; exact hc_state S B f z 0 (by have := HS.out; omega)
          have hs1 : wr.cell? ⟨hb, 1, none⟩ = some (.int .u32 (S.getD 1 0)) := by rw [blk_cell HT.out.h]; exact hc_state S B f z 1 (by have := HS.out; omega)
          have hs2 : wr.cell? ⟨hb, 2, none⟩ = some (.int .u32 (S.getD 2 0)) := by rw [blk_cell HT.out.h]; exact hc_state S B f z 2 (by have := HS.out; omega)
          have hs3 : wr.cell? ⟨hb, 3, none⟩ = some (.int .u32 (S.getD 3 0)) := by rw [blk_cell HT.out.h]; exact hc_state S B f z 3 (by have := HS.out; omega)
          have hs4 : wr.cell? ⟨hb, 4, none⟩ = some (.int .u32 (S.getD 4 0)) := by rw [blk_cell HT.out.h]; exact hc_state S B f z 4 (by have := HS.out; omega)
          have hs5 : wr.cell? ⟨hb, 5, none⟩ = some (.int .u32 (S.getD 5 0)) := by rw [blk_cell HT.out.h]; exact hc_state S B f z 5 (by have := HS.out; omega)
          have hs6 : wr.cell? ⟨hb, 6, none⟩ = some (.int .u32 (S.getD 6 0)) := by rw [blk_cell HT.out.h]; exact hc_state S B f z 6 (by have := HS.out; omega)
          have hs7 : wr.cell? ⟨hb, 7, none⟩ = some (.int .u32 (S.getD 7 0)) := by rw [blk_cell HT.out.h]; exact hc_state S B f z 7 (by have := HS.out; omega)
          obtain ⟨q0, hq0⟩ : ∃ c : Int, c = S.getD 0 0 := ⟨_, rfl⟩
          rw [← hq0] at hs0
          obtain ⟨q1, hq1⟩ : ∃ c : Int, c = S.getD 1 0 := ⟨_, rfl⟩
          rw [← hq1] at hs1
          obtain ⟨q2, hq2⟩ : ∃ c : Int, c = S.getD 2 0 := ⟨_, rfl⟩
          rw [← hq2] at hs2
          obtain ⟨q3, hq3⟩ : ∃ c : Int, c = S.getD 3 0 := ⟨_, rfl⟩
          rw [← hq3] at hs3
          obtain ⟨q4, hq4⟩ : ∃ c : Int, c = S.getD 4 0 := ⟨_, rfl⟩
          rw [← hq4] at hs4
          obtain ⟨q5, hq5⟩ : ∃ c : Int, c = S.getD 5 0 := ⟨_, rfl⟩
          rw [← hq5] at hs5
          obtain ⟨q6, hq6⟩ : ∃ c : Int, c = S.getD 6 0 := ⟨_, rfl⟩
          rw [← hq6] at hs6
          obtain ⟨q7, hq7⟩ : ∃ c : Int, c = S.getD 7 0 := ⟨_, rfl⟩
          rw [← hq7] at hs7
          have HQ := Aside0.mk (show ofL S = ⟨q0, q1, q2, q3, q4, q5, q6, q7⟩ from by rw [hq0, hq1, hq2, hq3, hq4, hq5, hq6, hq7]; rfl)
          clear hq0 hq1 hq2 hq3 hq4 hq5 hq6 hq7
          go_quiet (fail)
          go_wp2_with (fail)
          clear hs0 hs1 hs2 hs3 hs4 hs5 hs6 hs7
          have HT48 := Aside0.mk (show TB (wr.drewN nq) hb kb w.heap.size S B f z (W2 B 48) from by have e : n = 48 := (by have := HN.out; omega); rw [e] at HT; exact HT.out.drew _)
          have HP48 := Aside0.mk (HP.out.drew nq)
          obtain ⟨wC, hwC⟩ : ∃ x : World, x = wr.drewN nq := ⟨_, rfl⟩
          rw [← hwC] at HT48 HP48 ⊢
          clear HT HP hwC
          go_loopg [11, 12, 13, 14, 15, 16, 17, 18, 133] 64 (fun kq v11 v12 v13 v14 v15 v16 v17 v18 v133 w' => ∃ (m : Nat) (v : R8), v11 = .int .u32 v.a ∧ v12 = .int .u32 v.b ∧ v13 = .int .u32 v.c ∧ v14 = .int .u32 v.d ∧ v15 = .int .u32 v.e ∧ v16 = .int .u32 v.f ∧ v17 = .int .u32 v.g ∧ v18 = .int .u32 v.i ∧ v133 = .int .i64 (m : Int) ∧ Aside0 (m + kq = 64) ∧ Aside0 (v = vs (W2 B 48) (ofL S) m) ∧ Aside0 (TB w' hb kb w.heap.size S B f z (W2 B 48)) ∧ Aside0 (Kp wA w' hb w.heap.size))
          case atStart => exact ⟨0, ⟨q0, q1, q2, q3, q4, q5, q6, q7⟩, rfl, rfl, rfl, rfl, rfl, rfl, rfl, rfl, by rfl, ⟨by omega⟩, ⟨by rw [← HQ.out]; rfl⟩, HT48, HP48⟩
          case round =>
            obtain ⟨m, v, rfl, rfl, rfl, rfl, rfl, rfl, rfl, rfl, rfl, HM, HV, HT, HP⟩ := hrel
            cases gk with
            | zero =>
              have hlt : decide ((m : Int) < 64) = false := decide_eq_false (by have := HM.out; omega)
              go_wp2_with (fail)
              have HT64 := HT
              have HP64 := HP
              have HVE := Aside0.mk (show v = vs (W2 B 48) (ofL S) 64 from by have e : m = 64 := (by have := HM.out; omega); rw [← e]; exact HV.out)
              have hix : ∀ (j : Nat) (W : World), j < 8 → (Instr.index 62 (.agg #[.int .u32 v.a, .int .u32 v.b, .int .u32 v.c, .int .u32 v.d, .int .u32 v.e, .int .u32 v.f, .int .u32 v.g, .int .u32 v.i]) (.int .i64 (j : Int))).run Tryd.prog W = .ok (.int .u32 (v.l.getD j 0)) W := by
                exact fun j W hj => idx8 _ _ _ _ _ _ _ _ j W hj
              have HIX := Aside0.mk hix
              clear hix hlt HT HP
              obtain ⟨wD, hwD⟩ : ∃ x : World, x = wr := ⟨_, rfl⟩
              subst hwD
              go_loopg [207] 8 (fun kq v207 w' => ∃ (j : Nat), v207 = .int .i64 (j : Int) ∧ Aside0 (j + kq = 8) ∧ Aside0 (TB w' hb kb w.heap.size (addS S v.l j) B f z (W2 B 48)) ∧ Aside0 (Kp wA w' hb w.heap.size))
              case atStart => exact ⟨0, by rfl, ⟨by omega⟩, ⟨by rw [addS_zero S _ HS.out]; exact HT64.out⟩, HP64⟩
              case round =>
                obtain ⟨j, rfl, HJ, HT, HP⟩ := hrel
                cases gk with
                | zero =>
                  have hlt : decide ((j : Int) < 8) = false := decide_eq_false (by have := HJ.out; omega)
                  have HT8 := Aside0.mk (show TB wr hb kb w.heap.size (mixS S B) B f z (W2 B 48) from by have e : j = 8 := (by have := HJ.out; omega); rw [e, HVE.out] at HT; exact HT.out)
                  have hx72 : wr.cell? ⟨hb, 72, none⟩ = some (.int .i64 f) := by
                    rw [blk_cell HT8.out.h, show 72 = (mixS S B).length + B.length from by rw [mixS_len, HB.out]]
                    exact hc_fill _ _ _ _
                  have hf72 := blk_frozen HT8.out.h 72
                  go_wp2_with (fail)
                  go_end0
                  refine ⟨rfl, ?_, ?_⟩
                  · refine blk_put HT8.out.h _ _ ?_
                    have e := hc_set_fill (mixS S B) B f z 0
                    rw [mixS_len, HB.out] at e
                    exact e
                  · have q := HP.out.seth 72 (.int .i64 0)
                    rw [HWA.out] at q
                    refine ⟨?_, fun k h1 h2 h3 => ?_, q.os, q.tape, q.output⟩
                    · have := q.size; simp at this ⊢; omega
                    · rw [q.keep k (by simp; omega) h2 h3]
                      exact Below.heap_alloc _ _ _ h1
                | succ k5 =>
                  have hlt : decide ((j : Int) < 8) = true := decide_eq_true (by have := HJ.out; omega)
                  have hjl : j < 8 := by have := HJ.out; omega
                  have hix := fun W => HIX.out j W hjl
                  have hx0 : wr.cell? ⟨hb, j, none⟩ = some (.int .u32 ((addS S v.l j).getD j 0)) := by
                    rw [blk_cell HT.out.h]; exact hc_state _ _ _ _ j (by rw [addS_len]; exact hjl)
                  have hfx := blk_frozen HT.out.h j
                  obtain ⟨y1, hy1⟩ : ∃ c : Int, c = (addS S v.l j).getD j 0 := ⟨_, rfl⟩
                  obtain ⟨y2, hy2⟩ : ∃ c : Int, c = v.l.getD j 0 := ⟨_, rfl⟩
                  rw [← hy1] at hx0
                  rw [← hy2] at hix
                  have HY := Aside0.mk (And.intro hy1 hy2)
                  clear hy1 hy2
                  go_wp2_with (fail)
                  have i1 : (j : Int) < 8 := by omega
                  have i2 : (0 : Int) ≤ j := by omega
                  refine wp_region_still_tail 11 (by kernel_rfl) (by kernel_rfl) ?_
                  simp only [List.take_succ_cons, List.take_zero, List.drop_succ_cons, List.drop_zero]
                  change wpStill _ _ (wr.drewN 1) _ _ _
                  repeat still_step
                  refine wpStill_nil ?_
                  change wpList _ _ _ _ _ (wr.drewN 1)
                  go_wp2_with (fail)
                  go_roundg k5
                  case measure => omega
                  case rel =>
                    have hne1 : w.heap.size ≠ hb := by have := HLT.out.1; omega
                    have hne2 : kb ≠ hb := fun h => HNE.out h.symm
                    refine ⟨j + 1, by go_num, ⟨by have := HJ.out; omega⟩, ⟨⟨?_, blk_far (HT.out.drew _).k hne2 _, blk_far (HT.out.drew _).v hne1 _⟩⟩, ⟨(HP.out.drew _).seth _ _⟩⟩
                    refine blk_put (HT.out.drew _).h _ _ ?_
                    rw [hc_set_state _ _ _ _ _ _ (by rw [addS_len]; exact hjl), ← addS_succ S v.l j hjl, ← HY.out.1, ← HY.out.2]
                    rfl
            | succ k4 =>
              have hlt : decide ((m : Int) < 64) = true := decide_eq_true (by have := HM.out; omega)
              have hm1 : (m : Int) ≤ 63 := by have := HM.out; omega
              have hml : m < 64 := by omega
              have hk1 : wr.cell? ⟨kb, m, none⟩ = some (.int .u32 (K64.getD m 0)) := by rw [blk_cell HT.out.k, wc_get _ _ (by rw [K64_len]; omega)]
              have hw1 : wr.cell? ⟨w.heap.size, m, none⟩ = some (.int .u32 ((W2 B 48).getD m 0)) := by rw [blk_cell HT.out.v, wc_get _ _ (by rw [W2_len]; omega)]
              obtain ⟨y1, hy1⟩ : ∃ c : Int, c = K64.getD m 0 := ⟨_, rfl⟩
              obtain ⟨y2, hy2⟩ : ∃ c : Int, c = (W2 B 48).getD m 0 := ⟨_, rfl⟩
              rw [← hy1] at hk1
              rw [← hy2] at hw1
              have HY := Aside0.mk (And.intro hy1 hy2)
              clear hy1 hy2
              go_wp2_with (fail)
              have i1 : (m : Int) < 64 := by omega
              have i2 : (0 : Int) ≤ m := by omega
              go_quiet (exact Calls.quiet_of_same (rotG _ _ _ (by decide)))
              go_wp2_with (fail)
              refine (rotG _ _ _ (by decide)).mono ?_
              rintro e w1 ⟨rfl, rfl⟩
              go_wp2_with (fail)
              refine (rotG _ _ _ (by decide)).mono ?_
              rintro e w1 ⟨rfl, rfl⟩
              go_wp2_with (fail)
              refine (rotG _ _ _ (by decide)).mono ?_
              rintro e w1 ⟨rfl, rfl⟩
              go_wp2_with (fail)
              go_roundg k4
              case measure => omega
              case rel =>
                refine ⟨m + 1, rnd v y1 y2, ?_, rfl, rfl, rfl, ?_, rfl, rfl, rfl, by go_num, ⟨by have := HM.out; omega⟩, ⟨?_⟩, ⟨HT.out.drew _⟩, ⟨HP.out.drew _⟩⟩
                · rfl
                · rfl
                · rw [HV.out, HY.out.1, HY.out.2]; rfl
        | succ k3 =>
          have hlt : decide ((n : Int) + 16 < 64) = true := decide_eq_true (by have := HN.out; omega)
          have hb2 : (n : Int) ≤ 47 := by have := HN.out; omega
          have hnl : n + 16 < 64 := by omega
          have hx15 : wr.cell? ⟨w.heap.size, n + 1, none⟩ = some (.int .u32 ((W2 B n).getD (n + 1) 0)) := by
            rw [blk_cell HT.out.v, wc_get _ _ (by rw [W2_len]; omega)]
          have hx2 : wr.cell? ⟨w.heap.size, n + 14, none⟩ = some (.int .u32 ((W2 B n).getD (n + 14) 0)) := by
            rw [blk_cell HT.out.v, wc_get _ _ (by rw [W2_len]; omega)]
          have hx16 : wr.cell? ⟨w.heap.size, n, none⟩ = some (.int .u32 ((W2 B n).getD n 0)) := by
            rw [blk_cell HT.out.v, wc_get _ _ (by rw [W2_len]; omega)]
          have hx7 : wr.cell? ⟨w.heap.size, n + 9, none⟩ = some (.int .u32 ((W2 B n).getD (n + 9) 0)) := by
            rw [blk_cell HT.out.v, wc_get _ _ (by rw [W2_len]; omega)]
          have hx0 : wr.cell? ⟨w.heap.size, n + 16, none⟩ = some (.int .u32 ((W2 B n).getD (n + 16) 0)) := by
            rw [blk_cell HT.out.v, wc_get _ _ (by rw [W2_len]; omega)]
          have hf2 := blk_frozen HT.out.v (n + 16)
          obtain ⟨y15, hy15⟩ : ∃ c : Int, c = (W2 B n).getD (n + 1) 0 := ⟨_, rfl⟩
          obtain ⟨y2, hy2⟩ : ∃ c : Int, c = (W2 B n).getD (n + 14) 0 := ⟨_, rfl⟩
          obtain ⟨y16, hy16⟩ : ∃ c : Int, c = (W2 B n).getD n 0 := ⟨_, rfl⟩
          obtain ⟨y7, hy7⟩ : ∃ c : Int, c = (W2 B n).getD (n + 9) 0 := ⟨_, rfl⟩
          obtain ⟨y0, hy0⟩ : ∃ c : Int, c = (W2 B n).getD (n + 16) 0 := ⟨_, rfl⟩
          rw [← hy15] at hx15
          rw [← hy2] at hx2
          rw [← hy16] at hx16
          rw [← hy7] at hx7
          rw [← hy0] at hx0
          have HY := Aside0.mk (And.intro hy15 (And.intro hy2 (And.intro hy16 hy7)))
          clear hy15 hy2 hy16 hy7 hy0
          go_wp2_with (fail)
          go_quiet (fail)
          go_wp2_with (fail)
          have i1 : IntKind.i64.wrap (n : Int) = n := IntWalk.i64_in _ (by omega)
          have i2 : IntKind.i64.wrap ((n : Int) + 16 - 7) = n + 9 := by rw [IntWalk.i64_in _ (by omega)]; omega
          have i3 : (n : Int) < 64 := by omega
          have i4 : (n : Int) + 9 < 64 := by omega
          have i5 : (n : Int) + 16 < 64 := by omega
          have i6 : (0 : Int) ≤ n := by omega
          have i7 : 0 ≤ (n : Int) + 9 := by omega
          have i8 : 0 ≤ (n : Int) + 16 := by omega
          have i9 : ((n : Int) + 9).toNat = n + 9 := by omega
          have i10 : ((n : Int) + 16).toNat = n + 16 := by omega
          refine wp_region_still_tail 29 (by kernel_rfl) (by kernel_rfl) ?_
          simp only [List.take_succ_cons, List.take_zero, List.drop_succ_cons, List.drop_zero]
          change wpStill _ _ (wr.drewN (nq + 1)) _ _ _
          repeat still_step
          still_call (rotG _ _ _ (by decide))
          repeat still_step
          still_call (rotG _ _ _ (by decide))
          repeat still_step
          still_call (rotG _ _ _ (by decide))
          repeat still_step
          still_call (rotG _ _ _ (by decide))
          repeat still_step
          refine wpStill_nil ?_
          change wpList _ _ _ _ _ (wr.drewN (nq + 1))
          go_wp2_with (fail)
          go_roundg k3
          case measure => omega
          case rel =>
            have hne1 : hb ≠ w.heap.size := by have := HLT.out.1; omega
            have hne2 : kb ≠ w.heap.size := by have := HLT.out.2; omega
            refine ⟨n + 1, by go_num, ⟨by have := HN.out; omega⟩, ⟨⟨blk_far (HT.out.drew _).h hne1 _, blk_far (HT.out.drew _).k hne2 _, ?_⟩⟩, ⟨(HP.out.drew _).setv _ _⟩⟩
            refine blk_put (HT.out.drew _).v _ _ ?_
            rw [wc_set, HY.out.1, HY.out.2.1, HY.out.2.2.1, HY.out.2.2.2]
            rfl
    | succ k1 =>
      have hlt : decide ((t : Int) < 16) = true := decide_eq_true (by have := HK.out; omega)
      have hb1 : (t : Int) ≤ 15 := by have := HK.out; omega
      obtain ⟨u1, hu1⟩ : ∃ u : Nat, u = 8 + 4 * t := ⟨_, rfl⟩
      have hsl : ∀ W, (Instr.sliceAt 64 (.pointer (some ⟨hb, 8, none⟩)) (some (.int .i64 (4 * (t : Int)))) (some (.int .i64 (4 * (t : Int) + 4))) none).run Tryd.prog W = .ok (.slice (some ⟨hb, u1, none⟩) 4 (64 - 4 * t)) W := by
        intro W
        rw [hu1]
        exact cut4 hb t W (by omega)
      have HU := Aside0.mk hu1
      clear hu1
      go_wp2_with (fail)
      have HSL := Aside0.mk hsl
      clear hsl
      go_loopg [37] 4 (fun kq v37 w' => ∃ j : Nat, v37 = .int .i64 (j : Int) ∧ Aside0 (j + kq = 4) ∧ Aside0 (TB w' hb kb w.heap.size S B f z ((W1 B t).set t (word B t j))) ∧ Aside0 (Kp wA w' hb w.heap.size))
      case atStart => exact ⟨0, by rfl, ⟨by omega⟩, ⟨by rw [W1_self B t (by omega)]; exact HT.out⟩, HP⟩
      case round =>
        obtain ⟨j, rfl, HJ, HT, HP⟩ := hrel
        cases gk with
        | zero =>
          have hlt : decide ((j : Int) < 4) = false := decide_eq_false (by have := HJ.out; omega)
          go_wp2_with (fail)
          go_roundg k1
          case measure => omega
          case rel =>
            refine ⟨t + 1, by go_num, ⟨by have := HK.out; omega⟩, ⟨?_⟩, HP⟩
            rw [← W1_succ B t (by omega)]
            have e : j = 4 := by have := HJ.out; omega
            rw [← e]
            exact HT.out
        | succ k2 =>
          have hlt : decide ((j : Int) < 4) = true := decide_eq_true (by have := HJ.out; omega)
          have hj1 : (j : Int) ≤ 3 := by have := HJ.out; omega
          have hx1 : wr.cell? ⟨hb, u1 + j, none⟩ = some (.int .u8 (B.getD (4 * t + j) 0)) := by
            rw [blk_cell HT.out.h, HU.out, show 8 + 4 * t + j = S.length + (4 * t + j) from by have := HS.out; omega]
            exact hc_block S B f z _ (by have := HB.out; omega)
          have hx2 : wr.cell? ⟨w.heap.size, t, none⟩ = some (.int .u32 (word B t j)) := by
            rw [blk_cell HT.out.v, wc_get _ _ (by rw [List.length_set, W1_len]; omega), getD_set _ _ _ _ (by rw [W1_len]; omega), if_pos rfl]
          have hf2 := blk_frozen HT.out.v t
          obtain ⟨c0, hc0⟩ : ∃ c : Int, c = B.getD (4 * t + j) 0 := ⟨_, rfl⟩
          obtain ⟨x0, hx0⟩ : ∃ c : Int, c = word B t j := ⟨_, rfl⟩
          rw [← hc0] at hx1
          rw [← hx0] at hx2
          have HC0 := Aside0.mk hc0
          have HX0 := Aside0.mk hx0
          clear hc0 hx0
          go_wp2_with (fail)
          go_roundg k2
          case measure => omega
          case rel =>
            have hne1 : hb ≠ w.heap.size := by have := HLT.out.1; omega
            have hne2 : kb ≠ w.heap.size := by have := HLT.out.2; omega
            refine ⟨j + 1, by go_num, ⟨by have := HJ.out; omega⟩, ⟨⟨blk_far HT.out.h hne1 _, blk_far HT.out.k hne2 _, ?_⟩⟩, ⟨?_⟩⟩
            · refine blk_put HT.out.v _ _ ?_
              rw [wc_set, List.set_set, HX0.out, HC0.out]
              rfl
            · exact HP.out.setv _ _
end Go.Proofs.YtcghicmdphfodaaDoor.Sha
