/- massiflaw04.CoverRests: lent, kept, and the walk of the law. No condition beyond those that each theorem names. -/
import Derived.Test.YtkefjoljokfieaaCrP
import Derived.Test.YtkefjoljokfieaaDk
import Derived.Test.YtkefjoljokfieaaWq
import Derived.Test.YtkefjoljokfieaaWKept
import Derived.Carry
import Derived.Deep.RegionHeld3
import Derived.StillTailTactics
import Derived.WalkMore
set_option linter.unusedVariables false
set_option linter.unusedSimpArgs false
namespace Go.Proofs.Ytkefjoljokfieaa.Cr
open Go.RowKit Go.Proofs.Ytkefjoljokfieaa.MB Go.Proofs.YtkefjoljokfieaaW.PrintWords Go.Proofs.YtkefjoljokfieaaW.PrintLast Go.Proofs.YtkefjoljokfieaaW.PrintMore Go.Proofs.Ytkefjoljokfieaa.PCoverRests Go.Proofs.Ytkefjoljokfieaa.Pure Go.Proofs.Ytkefjoljokfieaa.Ob Go.Proofs.Ytkefjoljokfieaa.Ap Go.Proofs.Ytkefjoljokfieaa.Dk Go.Proofs.Ytkefjoljokfieaa.Wq
theorem few_calls (w : World) (A : Option Addr) (c : Nat) (l : List Int) (hC : Kd.C (Kd.int .u64) w A l.length l) (hc : l.length ≤ c) :
    Calls Try.prog 6 #[.slice A l.length c] w fun e w' => e = .returned (.slice A (fewI l).length c) ∧ Kd.C (Kd.int .u64) w' A (fewI l).length (fewI l) ∧ (fewI l).length ≤ c ∧ Below w.heap.size w w' := by
  by_cases h : 200 < l.length
  · have e : fewI l = l.take 200 := by unfold fewI; rw [if_pos h]
    have el : (l.take 200).length = 200 := by rw [List.length_take]; omega
    have HC := Aside0.mk (Kd.C_take hC (Nat.le_of_lt h))
    have t1 : decide ((l.length : Int) > 200) = true := decide_eq_true (by omega)
    have t2 : decide ((200 : Int) < l.length) = true := decide_eq_true (by omega)
    have t3 : decide (200 < l.length) = true := decide_eq_true h
    have HL := Aside0.mk (show 200 ≤ c from by omega)
    have t4 : (200 : Int) ≤ (c : Int) := by omega
    have t5 : 200 ≤ c := by omega
    rw [e, el]
    rw [el] at HC
    clear e el hC hc h
    go_enter Try.func6, Try.ntmps6
    go_wp2_with (fail)
    go_ret
    exact ⟨rfl, HC.out, HL.out, Below.refl _ _⟩
  · have e : fewI l = l := by unfold fewI; rw [if_neg h]
    have HC := Aside0.mk hC
    have HL := Aside0.mk hc
    have t1 : decide ((l.length : Int) > 200) = false := decide_eq_false (by omega)
    have t2 : decide ((200 : Int) < l.length) = false := decide_eq_false (by omega)
    have t3 : decide (200 < l.length) = false := decide_eq_false h
    rw [e]
    clear e hC hc h
    go_enter Try.func6, Try.ntmps6
    go_wp2_with (fail)
    go_ret
    exact ⟨rfl, HC.out, HL.out, Below.refl _ _⟩
theorem num_calls (a : Int) (w : World) : Calls Try.prog 11 #[.int .i64 a] w fun e w' => e = .returned (.int .i64 a) ∧ w = w' := by
  go_enter Try.func11, Try.ntmps11
  go_wp2_with (fail)
  go_ret
  exact ⟨rfl, rfl⟩
theorem two_new {w : World} {g : Nat} (h : w.heap[g]? = some (.cells #[.int .u64 77, .int .u64 78] 22 (0, 0))) : Kd.C (Kd.int .u64) w (some ⟨g, 0, none⟩) 2 [77, 78] := by
  refine Kd.C_of_reads (h1 := fun _ => rfl) (d := 0) ⟨rfl, by simp, fun _ => ⟨⟨g, 0, none⟩, rfl, fun i hi => ?_⟩⟩
  have e : i = 0 ∨ i = 1 := by have h2 : i < 2 := hi; omega
  rcases e with rfl | rfl <;> simp [World.cell?, h, Addr.add]
set_option maxHeartbeats 40000000 in
set_option maxRecDepth 100000 in
theorem lent_calls (w : World) (A : Option Addr) (c : Nat) (l : List Int) (hC : Kd.C (Kd.int .u64) w A l.length l) (hc : l.length ≤ c) (hl : l.length ≤ 200) :
    Calls Try.prog 7 #[.slice A l.length c] w fun e w' => ∃ g cap, e = .returned (.slice (some ⟨g, 0, none⟩) l.length cap) ∧ Kd.R (Kd.int .u64) 22 w' 0 (fun j => w.heap.size ≤ j) (.slice (some ⟨g, 0, none⟩) (l.length + 2) cap) (l ++ [77, 78]) ∧ Below w.heap.size w w' := by
  have HC := Aside0.mk hC
  have HCC := Aside0.mk hc
  obtain ⟨N, hN⟩ : ∃ N, N = l.length := ⟨_, rfl⟩
  have HL := Aside0.mk hl
  have HN := Aside0.mk hN
  rw [← hN] at HL ⊢
  clear hC hc hl hN
  go_enter Try.func7, Try.ntmps7
  go_wp2_with (first
    | ((with_reducible refine gate_builtin (b := .append) (xs := #[.tmp 4, .tmp 5]) rfl ?_); at_builtin; refine Kd.R_append_rows (Kd.int .u64) (w0 := w) 0 rfl (.tmp 4) (.tmp 5) 23 22 (.int .u64 0) 8 rfl Try.underlying23 (by kernel_rfl) rfl (by decide) (by omega) (.slice none 0 0) ([] : List Int) l A N c (fun j => w.heap.size ≤ j) (fun _ => False) rfl rfl ?aO ?aR (fun _ _ h => h) (fun _ h => h.elim) ?aF ?aB ?aS ?aL ?_; (case aO => exact Kd.R_nil _ _ _ _ _); (case aR => rw [HN.out]; exact HC.out); (case aF => exact fun j hj => hj); (case aB => exact Below.refl _ _); (case aS => exact Nat.zero_le _); (case aL => have h1 := HL.out; have h2 := HN.out; simp; omega); intro vs v1 ho hb5 hg5 hat; have HO1 := Aside0.mk ho; have HG1 := Aside0.mk hg5; clear ho hb5 hg5 hat)
    | ((with_reducible refine gate_builtin (b := .append) (xs := #[.tmp 7, .tmp 8]) rfl ?_); at_builtin; refine Kd.R_append_rows (Kd.int .u64) (w0 := v1.alloc (.cells #[.int .u64 77, .int .u64 78] 22)) 0 rfl (.tmp 7) (.tmp 8) 23 22 (.int .u64 0) 8 rfl Try.underlying23 (by kernel_rfl) rfl (by decide) (by omega) vs l [77, 78] (some ⟨v1.heap.size, 0, none⟩) 2 2 (fun j => w.heap.size ≤ j) (fun _ => False) rfl rfl ?aO ?aR (fun _ _ h => h) (fun _ h => h.elim) ?aF ?aB ?aS ?aL ?_; (case aO => exact Kd.R_below HO1.out (below_alloc (Below.refl _ _) _)); (case aR => exact two_new (blk_new _ _)); (case aF => exact fun j hj => Nat.le_trans (Nat.le_trans HG1.out.size (below_alloc (Below.refl _ v1) _).size) hj); (case aB => exact Below.refl _ _); (case aS => exact Nat.zero_le _); (case aL => have h1 := HL.out; have h2 := HN.out; simp; omega); intro vt v2 ho hb6 hg6 hat; obtain ⟨g, cap, ev, _⟩ := Kd.R_form ho (by simp); subst ev; have HO2 := Aside0.mk ho; have HG2 := Aside0.mk hg6; have hle := (Kd.R_reads' ho).2.1; clear ho hb6 hg6 hat; have hlN : (l ++ [(77 : Int), 78]).length = N + 2 := (by rw [List.length_append, ← HN.out]; rfl); rw [hlN] at HO2 hle ⊢; have q1 : (N : Int) ≤ (cap : Int) := (by omega); have q2 : N ≤ cap := (by omega); have q3 : (0 : Int) ≤ (N : Int) := (by omega); clear hle hlN))
  go_ret
  refine ⟨g, cap, rfl, HO2.out, ?_⟩
  have hb1 := Kp.old (Below.refl _ w) (Nat.le_refl _) (Kp.grown (Kp.refl w (fun j => w.heap.size ≤ j)) HG1.out (fun j hj => by cases hj)) (fun _ h => h)
  have hb2 := below_alloc (Below.refl _ v1) (.cells #[.int .u64 77, .int .u64 78] 22)
  have hb3 := below_weaken hb1 hb1.size hb2
  exact Kp.old hb3 hb3.size (Kp.grown (Kp.refl _ (fun j => w.heap.size ≤ j)) HG2.out (fun j hj => .inl (HO1.out.1 j hj))) (fun _ h => h)
set_option maxHeartbeats 40000000 in
set_option maxRecDepth 100000 in
theorem kept_calls (w : World) (g cap : Nat) (A : Option Addr) (c : Nat) (l : List Int) (ok : Nat → Prop) (hR : Kd.R (Kd.int .u64) 22 w 0 ok (.slice (some ⟨g, 0, none⟩) (l.length + 2) cap) (l ++ [77, 78])) (hC : Kd.C (Kd.int .u64) w A l.length l) (hc : l.length ≤ c) (hl : l.length ≤ 200) :
    Calls Try.prog 13 #[.slice (some ⟨g, 0, none⟩) l.length cap, .slice A l.length c] w fun e w' => e = .returned (.bool true) ∧ Below w.heap.size w w' := by
  obtain ⟨N, hN⟩ : ∃ N, N = l.length := ⟨_, rfl⟩
  have hcap := (Kd.R_reads' hR).2.1
  rw [← hN] at hcap
  have hcell : ∀ i, i < N + 2 → w.cell? ⟨g, i, none⟩ = some (.int .u64 (rdOf 0 (l ++ [77, 78]) (i : Int))) := fun i hi => by
    have h := (Kd.R_celln 0 hR (i : Int) (by omega) (by omega)).1
    rw [Int.toNat_natCast] at h; exact h
  have y0 : w.cell? ⟨g, N, none⟩ = some (.int .u64 77) := by
    rw [hcell N (by omega)]; unfold rdOf
    rw [Int.toNat_natCast, List.getD_eq_getElem?_getD, List.getElem?_append_right (by omega), show N - l.length = 0 from by omega]; rfl
  have y1 : w.cell? ⟨g, N + 1, none⟩ = some (.int .u64 78) := by
    rw [hcell (N + 1) (by omega)]; unfold rdOf
    rw [Int.toNat_natCast, List.getD_eq_getElem?_getD, List.getElem?_append_right (by omega), show N + 1 - l.length = 1 from by omega]; rfl
  have HCL := Aside0.mk (show ∀ i (hi : i < l.length), w.cell? ⟨g, i, none⟩ = some (.int .u64 l[i]) from fun i hi => by
    rw [hcell i (by omega)]; unfold rdOf
    rw [Int.toNat_natCast, List.getD_eq_getElem?_getD, List.getElem?_append_left hi, List.getElem?_eq_getElem hi]; rfl)
  have HCA := Aside0.mk (show ∀ i (hi : i < l.length), ∃ ad, A = some ad ∧ w.cell? (ad.add i) = some (.int .u64 l[i]) from fun i hi => by
    obtain ⟨ad, e, h⟩ := ReadsOf.at_ (Kd.reads_of_C (d := 0) (h1 := fun _ => rfl) hC) (i : Int) (by omega) (by omega)
    refine ⟨ad, e, ?_⟩
    rw [Int.toNat_natCast] at h
    rw [h]; unfold rdOf
    rw [Int.toNat_natCast, List.getD_eq_getElem?_getD, List.getElem?_eq_getElem hi]; rfl)
  have HN := Aside0.mk hN
  have HL := Aside0.mk (show N ≤ 200 from by omega)
  have HB := Aside0.mk (Below.refl w.heap.size w)
  have b1 : -9223372036854775808 ≤ (N : Int) + 1 ∧ (N : Int) + 1 ≤ 9223372036854775807 := by omega
  have b2 : -9223372036854775808 ≤ (N : Int) + 2 ∧ (N : Int) + 2 ≤ 9223372036854775807 := by omega
  have p1 : (0 : Int) ≤ (N : Int) := by omega
  have p2 : (0 : Int) ≤ (N : Int) + 1 := by omega
  have p3 : (0 : Int) ≤ (N : Int) + 2 := by omega
  have p4 : (N : Int) + 1 ≤ (cap : Int) := by omega
  have p5 : (N : Int) + 2 ≤ (cap : Int) := by omega
  have p6 : (N : Int) < (N : Int) + 1 := by omega
  have p7 : (N : Int) + 1 < (N : Int) + 2 := by omega
  have n1 : ((N : Int) + 1).toNat = N + 1 := by omega
  have n2 : ((N : Int) + 2).toNat = N + 2 := by omega
  have p8 : N < N + 1 := by omega
  have p9 : N + 1 < N + 2 := by omega
  have u1 : wrap64 ((N : Int) + 1) = (N : Int) + 1 := MB.wrap64_in _ b1.1 b1.2
  have u2 : wrap64 ((N : Int) + 2) = (N : Int) + 2 := MB.wrap64_in _ b2.1 b2.2
  rw [← hN]
  clear hR hC hc hl hN hcap hcell b1 b2
  go_enter Try.func13, Try.ntmps13
  go_wp2_with (fail)
  clear y0 y1 p2 p3 p4 p5 p6 p7 n1 n2 p8 p9 u1 u2
  go_loopg [6] N (fun kq q6 w' => ∃ i : Nat, q6 = .int .i64 (i : Int) ∧ Aside0 (i + kq = N) ∧ Aside0 (Below w.heap.size w w'))
  case atStart => exact ⟨0, by rfl, ⟨Nat.zero_add _⟩, HB⟩
  case round =>
   obtain ⟨i, rfl, HI, HB⟩ := hrel
   cases gk with
   | zero =>
    have hlt : decide ((i : Int) < (N : Int)) = false := decide_eq_false (by have := HI.out; omega)
    have hlt' : decide (i < N) = false := decide_eq_false (by have := HI.out; omega)
    go_wp2_with (fail)
    go_ret
    exact ⟨rfl, HB.out⟩
   | succ k1 =>
    have hil : i < N := by have := HI.out; omega
    have HJ := Aside0.mk (show i + 1 + k1 = N from by have := HI.out; omega)
    have hlt : decide ((i : Int) < (N : Int)) = true := decide_eq_true (by omega)
    have hlt' : decide (i < N) = true := decide_eq_true hil
    have b3 : -9223372036854775808 ≤ (i : Int) + 1 ∧ (i : Int) + 1 ≤ 9223372036854775807 := by have := HL.out; omega
    have q1 : (0 : Int) ≤ (i : Int) := by omega
    have q2 : (i : Int) < (N : Int) := by omega
    have hil2 : i < l.length := by have := HN.out; omega
    obtain ⟨z, hz⟩ : ∃ z, z = l[i] := ⟨_, rfl⟩
    have y0 := HCL.out i hil2
    obtain ⟨ad, eA, y1⟩ := HCA.out i hil2
    subst eA
    rw [← hz] at y0 y1
    have z0 : wr.cell? ⟨g, i, none⟩ = some (.int .u64 z) := (HB.out.cell (World.block_lt_of_cell? _ _ y0)).trans y0
    have z1 : wr.cell? (ad.add i) = some (.int .u64 z) := (HB.out.cell (World.block_lt_of_cell? _ _ y1)).trans y1
    have k0 := cell_regrown z0
    have k1' := cell_regrown z1
    have u3 : wrap64 ((i : Int) + 1) = (i : Int) + 1 := MB.wrap64_in _ b3.1 b3.2
    clear hz y0 y1 hil hil2 b3 z0 z1
    go_wp2_with (fail)
    refine region_wq (by kernel_rfl) (by kernel_rfl) ?_
    repeat (refine WQ.step (fun K hK => ?_); go_simp; refine hK _ ?_; clear hK K)
    refine WQ.nil ?_
    intro _ hw'
    obtain ⟨⟨dq, osq⟩, hw''⟩ := hw'
    subst hw''
    have HB2 := Aside0.mk (below_weaken HB.out HB.out.size (below_regrown wr dq osq))
    obtain ⟨v3, hv3⟩ : ∃ x, x = Go.Sort.grow (redrawn wr dq) osq := ⟨_, rfl⟩
    rw [← hv3] at HB2 ⊢
    clear k0 k1' hv3
    go_wp2_with (fail)
    go_roundg k1
    case measure => exact Nat.lt_succ_self _
    case rel => exact ⟨i + 1, by first | rfl | (rw [u3]; rfl), HJ, HB2⟩
theorem lent_C {w : World} {ok : Nat → Prop} {g cap : Nat} {l m : List Int} (h : Kd.R (Kd.int .u64) 22 w 0 ok (.slice (some ⟨g, 0, none⟩) (l.length + 2) cap) m) (hm : m.take l.length = l) : Kd.C (Kd.int .u64) w (some ⟨g, 0, none⟩) l.length l ∧ l.length ≤ cap := by
  obtain ⟨e, hle, hC⟩ := Kd.R_reads' h
  have h2 := Kd.C_take (m := l.length) hC (by omega)
  rw [hm] at h2
  exact ⟨h2, by omega⟩
/-- The numbers that are written over. -/
def odds (N : Nat) : List Int := (List.range N).map fun p => ((2 * p + 1 : Nat) : Int)
theorem odds_len (N : Nat) : (odds N).length = N := by unfold odds; simp
theorem odds_is (N : Nat) (m : List Int) (hm : m.length = N + 2) (h : ∀ p, p < N → m[p]? = some ((2 * p + 1 : Nat) : Int)) : m.take N = odds N := by
  apply List.ext_getElem?
  intro p
  unfold odds
  rw [List.getElem?_map]
  rcases Nat.lt_or_ge p N with hp | hp
  · rw [List.getElem?_take_of_lt hp, h p hp, List.getElem?_range hp]; rfl
  · rw [List.getElem?_eq_none (by rw [List.length_take]; omega), List.getElem?_eq_none (by simpa using hp)]; rfl
set_option maxHeartbeats 40000000 in
set_option maxRecDepth 100000 in
theorem rests_calls (w : World) (a0 : Int) (f0 : (Lit.int .u64 a0).wf = true) (A : Option Addr) (c : Nat) (l : List Int) (hC : Kd.C (Kd.int .u64) w A l.length l) (hc : l.length ≤ c) (hwf : ∀ z ∈ l, (Lit.int .u64 z).wf = true) :
    Calls Try.prog 3 #[.int .u64 a0, .slice A l.length c] w fun e w' => e = .returned (.bool true) ∧ Below w.heap.size w w' := by
  obtain ⟨n, rfl, hn⟩ := MB.wf_u64 f0
  have HC := Aside0.mk hC
  have HCC := Aside0.mk hc
  have HFL := Aside0.mk (few_len l)
  have HF0 := Aside0.mk (show ∀ z ∈ fewI l, 0 ≤ z from fun z hz => by
    obtain ⟨q, rfl, _⟩ := MB.wf_u64 (hwf z (few_mem l z hz)); omega)
  clear hC hc f0 hwf
  go_enter Try.func3, Try.ntmps3
  go_wp2_with (fail)
  refine (massiflaw04_alive.calls 400 true _ (alive_is 400 (by omega))).mono ?_
  rintro e w1 ⟨rfl, hb1⟩
  have HB1 := Aside0.mk hb1
  clear hb1
  go_wp2_with (fail)
  refine (few_calls _ A c l (Kd.C_below HC.out HB1.out) HCC.out).mono ?_
  rintro e w2 ⟨rfl, hC2, hc2, hb2⟩
  obtain ⟨f, hf⟩ : ∃ f, f = fewI l := ⟨_, rfl⟩
  rw [← hf] at hC2 hc2 HFL HF0 ⊢
  have HC2 := Aside0.mk hC2
  have HCC2 := Aside0.mk hc2
  have HB2 := Aside0.mk (below_weaken HB1.out HB1.out.size hb2)
  clear hf hC2 hc2 hb2 HC HCC HB1
  go_wp2_with (fail)
  refine (lent_calls w2 A c f HC2.out HCC2.out HFL.out).mono ?_
  rintro e w3 ⟨g, cap, rfl, hr3, hb3⟩
  have HG := Aside0.mk (show w.heap.size ≤ g from Nat.le_trans HB2.out.size (hr3.1 g rfl))
  have HR3 := Aside0.mk hr3
  have HC3 := Aside0.mk (Kd.C_below HC2.out hb3)
  have HB3 := Aside0.mk (below_weaken HB2.out HB2.out.size hb3)
  clear hr3 hb3 HC2 HB2
  obtain ⟨B, hB⟩ : ∃ B, B = (restF n f).2 := ⟨_, rfl⟩
  obtain ⟨E, hE⟩ : ∃ E, E = (restF n f).1 := ⟨_, rfl⟩
  have hp := prest_is n f
  have hq := rrest_is n f (by have := HFL.out; omega) HF0.out
  have hbl := rest_sum_len n f HF0.out HFL.out
  rw [← hB, ← hE] at hp hq
  rw [← hB] at hbl
  have HP1 := Aside0.mk hp.1
  have HP2 := Aside0.mk hp.2
  have HP3 := Aside0.mk hq
  obtain ⟨M, hM⟩ : ∃ M, M = B.length := ⟨_, rfl⟩
  have HM := Aside0.mk (show M = (blks B).length ∧ M ≤ 20000 from ⟨by rw [blks_length]; exact hM, by omega⟩)
  rw [← hM] at HP2
  clear hB hE hp hq hbl hM
  have HMN := Aside0.mk (show (f ++ [(77 : Int), 78]).take f.length = f from List.take_left' rfl)
  go_wp2_with (fail)
  refine (cover_Rest.calls (n : Int) (some ⟨g, 0, none⟩) cap f (blks B) E w3 (lent_C HR3.out HMN.out).1 (lent_C HR3.out HMN.out).2 HP1.out).mono ?_
  rintro e w4 ⟨vx, rfl, hrx, hbx⟩
  obtain ⟨Ax, cx, ex, hcx, hCx⟩ := Kd.R_reads hrx
  rw [← HM.out.1] at ex hcx hCx
  subst ex
  have HX4 := Aside0.mk (And.intro hcx hCx)
  have HR4 := Aside0.mk (Kd.R_below HR3.out hbx)
  have HC4 := Aside0.mk (Kd.C_below HC3.out hbx)
  have HB4 := Aside0.mk (below_weaken HB3.out HB3.out.size hbx)
  clear hcx hCx hrx hbx HR3 HC3 HB3
  go_wp2_with (fail)
  refine (cover_Count.calls (n : Int) (some ⟨g, 0, none⟩) cap f (M : Int) E w4 (lent_C HR4.out HMN.out).1 (lent_C HR4.out HMN.out).2 HP2.out).mono ?_
  rintro e w5 ⟨rfl, hb5⟩
  have HX5 := Aside0.mk (And.intro HX4.out.1 (Kd.C_below HX4.out.2 hb5))
  have HR5 := Aside0.mk (Kd.R_below HR4.out hb5)
  have HC5 := Aside0.mk (Kd.C_below HC4.out hb5)
  have HB5 := Aside0.mk (below_weaken HB4.out HB4.out.size hb5)
  clear hb5 HX4 HR4 HC4 HB4
  go_wp2_with (fail)
  refine (massifref04_Rest.calls 60000 (n : Int) A c f (blks B) E w5 HC5.out HCC2.out HP3.out).mono ?_
  rintro e w6 ⟨vy, rfl, hry, hb6⟩
  obtain ⟨Ay, cy, ey, hcy, hCy⟩ := Kd.R_reads hry
  rw [← HM.out.1] at ey hcy hCy
  subst ey
  have HY6 := Aside0.mk (And.intro hcy hCy)
  have HX6 := Aside0.mk (And.intro HX5.out.1 (Kd.C_below HX5.out.2 hb6))
  have HR6 := Aside0.mk (Kd.R_below HR5.out hb6)
  have HC6 := Aside0.mk (Kd.C_below HC5.out hb6)
  have HB6 := Aside0.mk (below_weaken HB5.out HB5.out.size hb6)
  clear hcy hCy hry hb6 HX5 HR5 HC5 HB5
  have HS := Aside0.mk (show ∀ (X : List S42) (A B : Option Addr) (c d K : Nat) (w' : World), X.length = K → K ≤ 20000 → Kd.C k42 w' A K X → K ≤ c → Kd.C k42 w' B K X → K ≤ d → Calls Try.prog 12 #[.slice A K c, .slice B K d] w' fun e w'' => e = .returned (.bool true) ∧ Below w'.heap.size w' w'' from fun X A B c d K w' hx hk k1 k2 k3 k4 => by
    subst hx
    exact (massiflaw04_same.calls 25000 A c X B d X true w' k1 k2 k3 k4 (same_is _ 25000 (by omega) (by omega))).mono (fun e w'' h => ⟨h.1, h.2.below⟩))
  have u1 : IntKind.u64.wrap (M : Int) = (M : Int) := IntWalk.u64_in _ (by have := HM.out.2; omega)
  go_wp2_with (first
    | (go_at_call 11; refine (num_calls _ _).mono ?_; rintro e _ ⟨rfl, rfl⟩)
    | (go_at_call 12; refine (HS.out (blks B) _ _ _ _ _ _ HM.out.1.symm HM.out.2 HX6.out.2 HX6.out.1 HY6.out.2 HY6.out.1).mono ?_; rintro e w7 ⟨rfl, hb7⟩; have HR7 := Aside0.mk (Kd.R_below HR6.out hb7); have HC7 := Aside0.mk (Kd.C_below HC6.out hb7); have HB7 := Aside0.mk (below_weaken HB6.out HB6.out.size hb7); clear hb7 HX6 HY6)
    | (go_at_call 13; refine (kept_calls w7 g cap A c f _ HR7.out HC7.out HCC2.out HFL.out).mono ?_; rintro e w8 ⟨rfl, hb8⟩; have HR8 := Aside0.mk (Kd.R_below HR7.out hb8); have HB8 := Aside0.mk (below_weaken HB7.out HB7.out.size hb8); clear hb8 HR7 HC7 HB7))
  clear u1
  obtain ⟨N, hN⟩ : ∃ N, N = f.length := ⟨_, rfl⟩
  have HN := Aside0.mk hN
  have HNL := Aside0.mk (show N ≤ 200 from by have := HFL.out; omega)
  have HMM := Aside0.mk (show (f ++ [(77 : Int), 78]).length = N + 2 ∧ ∀ p, p < 0 → (f ++ [(77 : Int), 78])[p]? = some ((2 * p + 1 : Nat) : Int) from ⟨by rw [List.length_append, hN]; rfl, fun p hp => absurd hp (Nat.not_lt_zero _)⟩)
  rw [← hN] at HR8 ⊢
  clear hN
  go_loopg [12] N (fun kq q12 w' => ∃ (i : Nat) (m : List Int), q12 = .int .i64 (i : Int) ∧ Aside0 (i + kq = N) ∧ Aside0 (Kd.R (Kd.int .u64) 22 w' 0 (fun j => w2.heap.size ≤ j) (.slice (some ⟨g, 0, none⟩) (N + 2) cap) m) ∧ Aside0 (m.length = N + 2 ∧ ∀ p, p < i → m[p]? = some ((2 * p + 1 : Nat) : Int)) ∧ Aside0 (Below w.heap.size w w'))
  case atStart => exact ⟨0, _, by rfl, ⟨Nat.zero_add _⟩, HR8, HMM, HB8⟩
  case round =>
   obtain ⟨i, m, rfl, HI, HR, HM1, HB⟩ := hrel
   cases gk with
   | zero =>
    have hlt : decide ((i : Int) < (N : Int)) = false := decide_eq_false (by have := HI.out; omega)
    have hlt' : decide (i < N) = false := decide_eq_false (by have := HI.out; omega)
    obtain ⟨O, hO⟩ : ∃ O, O = odds N := ⟨_, rfl⟩
    have hNO : N = O.length := by rw [hO, odds_len]
    have hmO : m.take O.length = O := by
      rw [← hNO, hO]; exact odds_is N m HM1.out.1 (fun p hp => HM1.out.2 p (by have := HI.out; omega))
    have HO0 := Aside0.mk (show ∀ z ∈ O, 0 ≤ z from fun z hz => by
      rw [hO] at hz; unfold odds at hz
      obtain ⟨p, _, rfl⟩ := List.mem_map.1 hz; omega)
    have HOL := Aside0.mk (show O.length ≤ 200 from by have := HNL.out; omega)
    have HNO := Aside0.mk hNO
    have HMO := Aside0.mk hmO
    clear hO hmO hNO HI HM1
    go_wp2_with (fail)
    clear hlt hlt'
    rw [HNO.out] at HR ⊢
    obtain ⟨B2, hB⟩ : ∃ B, B = (restF n O).2 := ⟨_, rfl⟩
    obtain ⟨E2, hE⟩ : ∃ E, E = (restF n O).1 := ⟨_, rfl⟩
    have hp := prest_is n O
    have hq := rrest_is n O (by have := HOL.out; omega) HO0.out
    have hbl := rest_sum_len n O HO0.out HOL.out
    rw [← hB, ← hE] at hp hq
    rw [← hB] at hbl
    have HP1 := Aside0.mk hp.1
    have HP2 := Aside0.mk hp.2
    have HP3 := Aside0.mk hq
    obtain ⟨M2, hM⟩ : ∃ M, M = B2.length := ⟨_, rfl⟩
    have HM := Aside0.mk (show M2 = (blks B2).length ∧ M2 ≤ 20000 from ⟨by rw [blks_length]; exact hM, by omega⟩)
    rw [← hM] at HP2
    clear hB hE hp hq hbl hM
    refine (cover_Rest.calls (n : Int) (some ⟨g, 0, none⟩) cap O (blks B2) E2 wr (lent_C HR.out HMO.out).1 (lent_C HR.out HMO.out).2 HP1.out).mono ?_
    rintro e z4 ⟨vx, rfl, hrx, hbx⟩
    obtain ⟨Ax, cx, ex, hcx, hCx⟩ := Kd.R_reads hrx
    rw [← HM.out.1] at ex hcx hCx
    subst ex
    have HX4 := Aside0.mk (And.intro hcx hCx)
    have HR4 := Aside0.mk (Kd.R_below HR.out hbx)
    have HB4 := Aside0.mk (below_weaken HB.out HB.out.size hbx)
    clear hcx hCx hrx hbx HR HB
    go_wp2_with (fail)
    refine (cover_Count.calls (n : Int) (some ⟨g, 0, none⟩) cap O (M2 : Int) E2 z4 (lent_C HR4.out HMO.out).1 (lent_C HR4.out HMO.out).2 HP2.out).mono ?_
    rintro e z5 ⟨rfl, hb5⟩
    have HX5 := Aside0.mk (And.intro HX4.out.1 (Kd.C_below HX4.out.2 hb5))
    have HR5 := Aside0.mk (Kd.R_below HR4.out hb5)
    have HB5 := Aside0.mk (below_weaken HB4.out HB4.out.size hb5)
    clear hb5 HX4 HR4 HB4
    go_wp2_with (fail)
    refine (massifref04_Rest.calls 60000 (n : Int) (some ⟨g, 0, none⟩) cap O (blks B2) E2 z5 (lent_C HR5.out HMO.out).1 (lent_C HR5.out HMO.out).2 HP3.out).mono ?_
    rintro e z6 ⟨vy, rfl, hry, hb6⟩
    obtain ⟨Ay, cy, ey, hcy, hCy⟩ := Kd.R_reads hry
    rw [← HM.out.1] at ey hcy hCy
    subst ey
    have HY6 := Aside0.mk (And.intro hcy hCy)
    have HX6 := Aside0.mk (And.intro HX5.out.1 (Kd.C_below HX5.out.2 hb6))
    have HB6 := Aside0.mk (below_weaken HB5.out HB5.out.size hb6)
    clear hcy hCy hry hb6 HX5 HR5 HB5
    have u1 : IntKind.u64.wrap (M2 : Int) = (M2 : Int) := IntWalk.u64_in _ (by have := HM.out.2; omega)
    go_wp2_with (first
      | (go_at_call 11; refine (num_calls _ _).mono ?_; rintro e _ ⟨rfl, rfl⟩)
      | (go_at_call 12; refine (HS.out (blks B2) _ _ _ _ _ _ HM.out.1.symm HM.out.2 HX6.out.2 HX6.out.1 HY6.out.2 HY6.out.1).mono ?_; rintro e z7 ⟨rfl, hb7⟩; have HB7 := Aside0.mk (below_weaken HB6.out HB6.out.size hb7); clear hb7 HX6 HY6))
    go_ret
    exact ⟨rfl, HB7.out⟩
   | succ k1 =>
    have hil : i < N := by have := HI.out; omega
    have HJ := Aside0.mk (show i + 1 + k1 = N from by have := HI.out; omega)
    have hlt : decide ((i : Int) < (N : Int)) = true := decide_eq_true (by omega)
    have hlt' : decide (i < N) = true := decide_eq_true hil
    have b1 : -9223372036854775808 ≤ 2 * (i : Int) ∧ 2 * (i : Int) ≤ 9223372036854775807 := by have := HNL.out; omega
    have b2 : -9223372036854775808 ≤ 2 * (i : Int) + 1 ∧ 2 * (i : Int) + 1 ≤ 9223372036854775807 := by have := HNL.out; omega
    have b3 : 0 ≤ 2 * (i : Int) + 1 ∧ 2 * (i : Int) + 1 ≤ 18446744073709551615 := by have := HNL.out; omega
    have b4 : -9223372036854775808 ≤ (i : Int) + 1 ∧ (i : Int) + 1 ≤ 9223372036854775807 := by have := HNL.out; omega
    have p1 : (0 : Int) ≤ (i : Int) := by omega
    have p2 : (i : Int) < (N : Int) := by omega
    have e2 : 2 * (i : Int) + 1 = ((2 * i + 1 : Nat) : Int) := by omega
    obtain ⟨hx0, hf0⟩ := Kd.R_celln 0 HR.out (i : Int) p1 (by omega)
    have hP := Kd.R_putg HR.out (i : Int) (2 * (i : Int) + 1)
    rw [Int.toNat_natCast] at hx0 hf0 hP
    have HP := Aside0.mk hP
    have HE2 := Aside0.mk e2
    have HIL := Aside0.mk (show i < m.length from by have := HM1.out.1; omega)
    have u1 : wrap64 (2 * (i : Int)) = 2 * (i : Int) := MB.wrap64_in _ b1.1 b1.2
    have u2 : wrap64 (2 * (i : Int) + 1) = 2 * (i : Int) + 1 := MB.wrap64_in _ b2.1 b2.2
    have u3 : IntKind.u64.wrap (2 * (i : Int) + 1) = 2 * (i : Int) + 1 := IntWalk.u64_in _ b3
    have u4 : wrap64 ((i : Int) + 1) = (i : Int) + 1 := MB.wrap64_in _ b4.1 b4.2
    clear b1 b2 b3 b4 e2 hP hil
    go_wp2_with (fail)
    have HB2 := Aside0.mk (Kp.old HB.out HB.out.size (Kp.grown (Kp.refl wr (fun j => w.heap.size ≤ j)) HP.out.2 (fun j hj => by cases hj; exact .inl HG.out)) (fun _ h => h))
    have HM2 := Aside0.mk (show (m.set i (2 * (i : Int) + 1)).length = N + 2 ∧ ∀ p, p < i + 1 → (m.set i (2 * (i : Int) + 1))[p]? = some ((2 * p + 1 : Nat) : Int) from ⟨by rw [List.length_set]; exact HM1.out.1, fun p hp => by
      by_cases e : i = p
      · subst e
        rw [List.getElem?_set_self HIL.out, HE2.out]
      · rw [List.getElem?_set_ne e]; exact HM1.out.2 p (Nat.lt_of_le_of_ne (Nat.le_of_lt_succ hp) (fun h => e h.symm))⟩)
    go_roundg k1
    case measure => exact Nat.lt_succ_self _
    case rel => exact ⟨i + 1, _, by first | rfl | (rw [u4]; rfl), HJ, ⟨HP.out.1⟩, HM2, HB2⟩
end Go.Proofs.Ytkefjoljokfieaa.Cr
