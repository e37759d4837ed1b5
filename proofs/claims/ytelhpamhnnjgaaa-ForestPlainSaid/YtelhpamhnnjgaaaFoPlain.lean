/- massiflaw10.ForestPlain: the walk. No condition beyond those that each theorem names. -/
import Derived.Test.YtelhpamhnnjgaaaFoGrow
import Derived.Test.YtelhpamhnnjgaaaFoPu
set_option linter.unusedVariables false
set_option linter.unusedSimpArgs false
namespace Go.Proofs.Ytelhpamhnnjgaaa.Fo
open Go.RowKit Go.Proofs.Ytelhpamhnnjgaaa.MB Go.Proofs.Ytelhpamhnnjgaaa.Pk Go.Proofs.YtelhpamhnnjgaaaW.PrintWords Go.Proofs.YtelhpamhnnjgaaaW.PrintLast Go.Proofs.YtelhpamhnnjgaaaW.PrintMore Go.Proofs.Ytelhpamhnnjgaaa.PForestPlain Go.Proofs.Ytelhpamhnnjgaaa.Ob
set_option maxHeartbeats 4000000 in
set_option maxRecDepth 100000 in
theorem plain_calls (w : World) (a0 : Int) (A : Option Addr) (c : Nat) (l : List ByteArray) (a2 : Int) (hC : Kd.C Kd.string w A l.length l) (hc : l.length ≤ c) :
    Calls Try.prog 6 #[.int .i64 a0, .slice A l.length c, .int .i64 a2] w fun e w' => e = .returned (.bool true) ∧ Below w.heap.size w w' := by
  obtain ⟨k, hk, k1, k2⟩ := strength_is a0
  have HK := Aside0.mk hk
  have HK2 := Aside0.mk (And.intro k1 k2)
  have HC := Aside0.mk hC
  have HCC := Aside0.mk hc
  clear hk k1 k2 hC hc
  go_enter Try.func6, Try.ntmps6
  go_wp2_with (fail)
  refine (alive_calls _).mono ?_
  rintro e w1 ⟨rfl, hb1⟩
  have HB1 := Aside0.mk hb1
  clear hb1
  go_wp2_with (fail)
  refine (massiflaw10_strength.calls a0 k _ HK.out).mono ?_
  rintro e w2 ⟨rfl, hd2⟩
  have HB2 := Aside0.mk (below_weaken HB1.out HB1.out.size hd2.below)
  clear hd2
  go_wp2_with (fail)
  refine (few_calls w2 A c l (Kd.C_below HC.out HB2.out) HCC.out).mono ?_
  rintro e w3 ⟨rfl, hC3, hc3, hb3⟩
  have HB3 := Aside0.mk (below_weaken HB2.out HB2.out.size hb3)
  have HC3 := Aside0.mk hC3
  have HCC3 := Aside0.mk hc3
  obtain ⟨f, hf⟩ : ∃ f, f = fewF l := ⟨_, rfl⟩
  have HFL := Aside0.mk (show f.length ≤ 70 from by rw [hf]; exact fewF_len l)
  rw [← hf] at HC3 HCC3 ⊢
  clear hb3 hC3 hc3 hf
  go_wp2_with (fail)
  refine (grown_calls w3 k HK2.out.1 HK2.out.2 A c f HC3.out HCC3.out (by have := HFL.out; omega)).mono ?_
  rintro e w4 ⟨hb, B, v, rfl, hr, ht, hwB, hBw, hb4⟩
  obtain ⟨L, hL⟩ : ∃ L, L = fits f := ⟨_, rfl⟩
  have HLL := Aside0.mk (show L.length ≤ 70 from by rw [hL]; exact Nat.le_trans (fits_len f) HFL.out)
  have HLS := Aside0.mk (show ∀ s ∈ L, s.size ≤ 1048576 from by rw [hL]; exact fits_mem f)
  rw [← hL] at hr ht
  obtain ⟨A4, c4, rfl, hcc, hC4⟩ := Kd.R_reads ht
  have HR4 := Aside0.mk hr
  have HC4 := Aside0.mk hC4
  have HCC4 := Aside0.mk hcc
  have HB4 := Aside0.mk (below_weaken HB3.out HB3.out.size hb4)
  obtain ⟨n, hn⟩ : ∃ n, n = L.length := ⟨_, rfl⟩
  obtain ⟨z1, z2⟩ := tmod_in a2 ((n : Int) + 1) (by omega)
  obtain ⟨m, hm⟩ : ∃ m : Nat, (m : Int) = Int.tmod (IntKind.u64.wrap a2) ((n : Int) + 1) := ⟨(Int.tmod (IntKind.u64.wrap a2) ((n : Int) + 1)).toNat, by omega⟩
  rw [← hm] at z1 z2
  obtain ⟨q, hq⟩ : ∃ q : Int, q = (n : Int) + 1 := ⟨_, rfl⟩
  have HMN := Aside0.mk (show m ≤ n from by omega)
  have HN := Aside0.mk hn
  rw [← hn] at HC4 HCC4 ⊢
  rw [← hq] at hm
  have p1 : (m : Int) ≤ (c4 : Int) := by have := HCC4.out; have := HMN.out; omega
  have p2 : (0 : Int) ≤ (m : Int) := by omega
  have p3 : m ≤ c4 := by omega
  have q1 : (q = 0) = False := by simp only [eq_iff_iff, iff_false]; omega
  have q2 : (q == 0) = false := beq_eq_false_iff_ne.mpr (by omega)
  have b1 : -9223372036854775808 ≤ (n : Int) + 1 ∧ (n : Int) + 1 ≤ 9223372036854775807 := by have := HLL.out; omega
  have b2 : (0 : Int) ≤ q ∧ q ≤ 18446744073709551615 := by have := HLL.out; omega
  have b3 : -9223372036854775808 ≤ (m : Int) ∧ (m : Int) ≤ 9223372036854775807 := by have := HLL.out; omega
  have e0 : wrap64 ((n : Int) + 1) = q := (MB.wrap64_in _ b1.1 b1.2).trans hq.symm
  have e1 : IntKind.u64.wrap q = q := IntWalk.u64_in _ b2
  have e3 : wrap64 (m : Int) = (m : Int) := MB.wrap64_in _ b3.1 b3.2
  have e2 := hm.symm
  clear hr ht hwB hBw hb4 hL hcc hC4 hn z1 z2 hm b1 b2 b3 hq
  go_wp2_with (fail)
  rw [e3]
  clear p1 p2 p3 q1 q2 e0 e1 e2 e3
  obtain ⟨M, hM⟩ : ∃ M, M = L.take m := ⟨_, rfl⟩
  have hml : M.length = m := by rw [hM, List.length_take, ← HN.out]; exact Nat.min_eq_left HMN.out
  have hCM : Kd.C Kd.string w4 A4 M.length M := by
    have h := HC4.out
    rw [HN.out] at h
    rw [hM]; exact Kd.C_take h (by rw [← HN.out]; exact HMN.out)
  have hG := grown_calls w4 k HK2.out.1 HK2.out.2 A4 c4 M hCM (by rw [hml]; have := HCC4.out; have := HMN.out; omega) (by rw [hml]; have := HLL.out; have := HMN.out; have := HN.out; omega)
  rw [fits_all M (fun s hs => HLS.out s (by rw [hM] at hs; exact List.mem_of_mem_take hs)), hml] at hG
  refine hG.mono ?_
  clear hG
  rintro e w5 ⟨hb5, B5, v5, rfl, hr5, -, -, -, hbl5⟩
  rw [hM] at hr5
  have HR5 := Aside0.mk hr5
  have HRf := Aside0.mk (HR4.out.below hbl5)
  have HC5 := Aside0.mk (Kd.C_below HC4.out hbl5)
  have HB5 := Aside0.mk (below_weaken HB4.out HB4.out.size hbl5)
  have HML := Aside0.mk (show (L.take m).length = m from by rw [← hM]; exact hml)
  clear hr5 hbl5 hM hml hCM
  go_wp2_with (fail)
  go_loopg [14] (n + 1) (fun kq v14 w' => ∃ i : Nat, v14 = .int .i64 (i : Int) ∧ Aside0 (i + kq = n + 1) ∧ Aside0 (Below w5.heap.size w5 w'))
  case atStart => exact ⟨0, by rfl, ⟨by omega⟩, ⟨Below.refl _ _⟩⟩
  case round =>
    obtain ⟨i, rfl, HI, HB⟩ := hrel
    cases gk with
    | zero =>
      have hlt : decide ((i : Int) ≤ (n : Int)) = false := decide_eq_false (by have := HI.out; omega)
      have hlt' : decide (i ≤ n) = false := decide_eq_false (by have := HI.out; omega)
      go_wp2_with (fail)
      clear hlt hlt' HI
      rename_i _
      go_loopg [21] 8 (fun kq v21 w' => ∃ h : Nat, v21 = .int .i64 (h : Int) ∧ Aside0 (h + kq = 8) ∧ Aside0 (Below w5.heap.size w5 w'))
      case atStart => exact ⟨0, by rfl, ⟨by omega⟩, HB⟩
      case round =>
        obtain ⟨h, rfl, HI, HB⟩ := hrel
        cases gk with
        | zero =>
          have hlt : decide ((h : Int) < (8 : Int)) = false := decide_eq_false (by have := HI.out; omega)
          have hlt' : decide (h < 8) = false := decide_eq_false (by have := HI.out; omega)
          go_wp2_with (fail)
          go_ret
          exact ⟨rfl, below_weaken HB5.out HB5.out.size HB.out⟩
        | succ k0 =>
          have hlt : decide ((h : Int) < (8 : Int)) = true := decide_eq_true (by have := HI.out; omega)
          have hlt' : decide (h < 8) = true := decide_eq_true (by have := HI.out; omega)
          obtain ⟨r, hr⟩ : ∃ r, r = n / 2 ^ h := ⟨_, rfl⟩
          have HH := Aside0.mk (show h < 8 from by have := HI.out; omega)
          have HRN := Aside0.mk (show r ≤ 70 from by have := Nat.div_le_self n (2 ^ h); have := HLL.out; have := HN.out; omega)
          have p0 : (0 : Int) ≤ (h : Int) := by omega
          have p1 : decide ((h : Int) < 0) = false := decide_eq_false (by omega)
          have u0 : IntKind.u64.wrap (n : Int) = (n : Int) := IntWalk.u64_in _ (by have := HLL.out; have := HN.out; omega)
          have s0 : shr .u64 (n : Int) (h : Int) = (r : Int) := by rw [shrc n h (by have := HH.out; omega), ← hr]
          have s1 : (n : Int) / 2 ^ min h 64 = (r : Int) := by rw [Nat.min_eq_left (by have := HH.out; omega), hr]; simp
          have uh : wrap64 ((h : Int) + 1) = (h : Int) + 1 := MB.wrap64_in _ (by omega) (by have := HH.out; omega)
          clear hr
          go_wp2_with (fail)
          go_loopg [22] (r + 1) (fun kq v22 w' => ∃ j : Nat, v22 = .int .u64 (j : Int) ∧ Aside0 (j + kq = r + 1) ∧ Aside0 (Below w5.heap.size w5 w'))
          case atStart => exact ⟨0, by rfl, ⟨by omega⟩, HB⟩
          case round =>
            obtain ⟨j, rfl, HJ, HB⟩ := hrel
            cases gk with
            | zero =>
              have hjt : decide ((j : Int) ≤ (r : Int)) = false := decide_eq_false (by have := HJ.out; omega)
              have hjt' : decide (j ≤ r) = false := decide_eq_false (by have := HJ.out; omega)
              go_wp2_with (fail)
              go_roundg k0
              case measure => exact Nat.lt_succ_self _
              case rel => exact ⟨h + 1, by rw [uh]; rfl, ⟨by have := HI.out; omega⟩, HB⟩
            | succ k1 =>
              have hjt : decide ((j : Int) ≤ (r : Int)) = true := decide_eq_true (by have := HJ.out; omega)
              have hjt' : decide (j ≤ r) = true := decide_eq_true (by have := HJ.out; omega)
              have uj : IntKind.u64.wrap ((j : Int) + 1) = (j : Int) + 1 := IntWalk.u64_in _ (by have := HJ.out; have := HRN.out; omega)
              obtain ⟨D, hD⟩ : ∃ D, D = (fo k L (h : Int) (j : Int)).getD ⟨#[]⟩ := ⟨_, rfl⟩
              obtain ⟨S, hS⟩ : ∃ S, S = (fo k L (h : Int) (j : Int)).isSome := ⟨_, rfl⟩
              have hpt := plain_tree 42 k L h j (by have := HH.out; omega) (by have := HLL.out; omega) (fun s hs => Nat.le_trans (HLS.out s hs) (by omega)) (Nat.le_refl _)
              rw [← hD, ← hS] at hpt
              have HPT := Aside0.mk hpt
              have hb6 := below_alloc (Below.refl wr.heap.size wr) (.cells #[.int .i64 (h : Int), .int .u64 (j : Int)] 45)
              have HK6 := Aside0.mk (blk_new wr (.cells #[.int .i64 (h : Int), .int .u64 (j : Int)] 45))
              have HB6 := Aside0.mk (below_weaken HB.out HB.out.size hb6)
              have x1 : (wr.alloc (.cells #[.int .i64 (h : Int), .int .u64 (j : Int)] 45)).cell? ⟨wr.heap.size, 0, none⟩ = some (.int .i64 (h : Int)) := by have h := HK6.out; unfold World.cell?; rw [h]; rfl
              have x2 : (wr.alloc (.cells #[.int .i64 (h : Int), .int .u64 (j : Int)] 45)).cell? ⟨wr.heap.size, 1, none⟩ = some (.int .u64 (j : Int)) := by have h := HK6.out; unfold World.cell?; rw [h]; rfl
              have hdc := digest_calls _ hb _ k _ _ (HRf.out.below HB6.out) (h : Int) (j : Int) (WalkArith.wf_i64 (by have := HH.out; omega)) (WalkArith.wf_u64 (by have := HJ.out; have := HRN.out; omega))
              rw [← hD, ← hS] at hdc
              have HDC := Aside0.mk hdc
              clear hpt hb6 hD hS hdc
              go_wp2_with (fail)
              refine HDC.out.mono ?_
              rintro e w7 ⟨rfl, hb7⟩
              have HB7 := Aside0.mk (below_weaken HB6.out HB6.out.size hb7)
              have HK7 := blk_below HK6.out hb7
              have y1 : w7.cell? ⟨wr.heap.size, 0, none⟩ = some (.int .i64 (h : Int)) := by unfold World.cell?; rw [HK7]; rfl
              have y2 : w7.cell? ⟨wr.heap.size, 1, none⟩ = some (.int .u64 (j : Int)) := by unfold World.cell?; rw [HK7]; rfl
              clear x1 x2 hb7 HK7
              go_wp2_with (fail)
              have hC7 := Kd.C_below HC5.out HB7.out
              rw [HN.out] at hC7
              have hpc := plain_Tree.calls 42 k A4 c4 L (h : Int) (j : Int) _ _ w7 hC7 (by rw [← HN.out]; exact HCC4.out) HPT.out
              rw [← HN.out] at hpc
              refine hpc.mono ?_
              clear hpc hC7 y1 y2
              rintro e w8 ⟨rfl, hb8⟩
              have HB8 := Aside0.mk (below_weaken HB7.out HB7.out.size hb8)
              clear hb8
              go_wp2_with (fail)
              go_roundg k1
              case measure => exact Nat.lt_succ_self _
              case rel => exact ⟨j + 1, by rfl, ⟨by have := HJ.out; omega⟩, HB8⟩
    | succ k1 =>
      have hin : i ≤ n := by have := HI.out; omega
      have hlt : decide ((i : Int) ≤ (n : Int)) = true := decide_eq_true (by omega)
      have hlt' : decide (i ≤ n) = true := decide_eq_true hin
      have HIN := Aside0.mk hin
      have u1 : IntKind.u64.wrap (i : Int) = (i : Int) := IntWalk.u64_in _ (by have := HLL.out; have := HN.out; omega)
      obtain ⟨D, hD⟩ : ∃ D, D = rtD k L i := ⟨_, rfl⟩
      have HRr := Aside0.mk (HRf.out.below HB.out)
      go_wp2_with (fail)
      have hrc := root_calls wr hb _ k L HRr.out (by have := HLL.out; omega) i (by rw [← HN.out]; exact HIN.out)
      rw [← hD] at hrc
      refine hrc.mono ?_
      clear hrc
      rintro e w6 ⟨rfl, hb6⟩
      obtain ⟨w7, hw7⟩ : ∃ w7, w7 = w6.alloc (.cells #[.int .u64 (i : Int), .string D] 34) := ⟨_, rfl⟩
      have hb7 : Below w6.heap.size w6 w7 := by rw [hw7]; exact below_alloc (Below.refl _ _) _
      have HK7 := Aside0.mk (show w7.heap[w6.heap.size]? = some (.cells #[.int .u64 (i : Int), .string D] 34 (0, 0)) from by rw [hw7]; exact blk_new _ _)
      have HB7 := Aside0.mk (below_weaken (below_weaken HB.out HB.out.size hb6) (Nat.le_trans HB.out.size hb6.size) hb7)
      obtain ⟨g7, hg7⟩ : ∃ g7, g7 = w6.heap.size := ⟨_, rfl⟩
      rw [← hg7] at HK7
      have hpr := plain_root 4200 k L i HK2.out (by rw [← HN.out]; exact HIN.out) (by have := HLL.out; omega) (fun s hs => Nat.le_trans (HLS.out s hs) (by omega)) (Nat.le_refl _)
      rw [← hD] at hpr
      have HPR := Aside0.mk hpr
      have HD := Aside0.mk hD
      clear hpr hb6 hb7 hD
      go_wp2_with (fail)
      rw [← hw7, ← hg7]
      clear hw7 hg7
      have hC7 := Kd.C_below HC5.out HB7.out
      rw [HN.out] at hC7
      have hpc := plain_Root.calls 4200 k A4 c4 L i _ _ _ w7 hC7 (by rw [← HN.out]; exact HCC4.out) HPR.out
      rw [← HN.out] at hpc
      refine hpc.mono ?_
      clear hpc hC7
      rintro e w8 ⟨rfl, hb8⟩
      have hb9 := below_alloc (Below.refl w8.heap.size w8) (.cells #[.int .u64 (i : Int), .string D] 34)
      have HK9 := Aside0.mk (blk_new w8 (.cells #[.int .u64 (i : Int), .string D] 34))
      have HK79 := Aside0.mk (blk_below (blk_below HK7.out hb8) hb9)
      have HB9 := Aside0.mk (below_weaken (below_weaken HB7.out HB7.out.size hb8) (Nat.le_trans HB7.out.size hb8.size) hb9)
      have x1 : (w8.alloc (.cells #[.int .u64 (i : Int), .string D] 34)).cell? ⟨g7, 0, none⟩ = some (.int .u64 (i : Int)) := by have h := HK79.out; unfold World.cell?; rw [h]; rfl
      have x2 : (w8.alloc (.cells #[.int .u64 (i : Int), .string D] 34)).cell? ⟨g7, 1, none⟩ = some (.string D) := by have h := HK79.out; unfold World.cell?; rw [h]; rfl
      have x3 : (w8.alloc (.cells #[.int .u64 (i : Int), .string D] 34)).cell? ⟨w8.heap.size, 0, none⟩ = some (.int .u64 (i : Int)) := by have h := HK9.out; unfold World.cell?; rw [h]; rfl
      have x4 : (w8.alloc (.cells #[.int .u64 (i : Int), .string D] 34)).cell? ⟨w8.heap.size, 1, none⟩ = some (.string D) := by have h := HK9.out; unfold World.cell?; rw [h]; rfl
      clear hb8 hb9
      have u3 : wrap64 ((i : Int) + 1) = (i : Int) + 1 := MB.wrap64_in _ (by omega) (by have := HLL.out; have := HN.out; omega)
      by_cases him : i ≤ m
      · have l1 : decide ((i : Int) ≤ (m : Int)) = true := decide_eq_true (by omega)
        have l2 : decide (i ≤ m) = true := decide_eq_true him
        have HIM := Aside0.mk him
        clear him
        go_wp2_with (first | (go_at_call 11; refine (num_calls _ _).mono ?_; rintro e _ ⟨rfl, rfl⟩))
        have hrg := root_calls _ hb5 _ k (L.take m) (by have h := HR5.out.below HB9.out; rw [← HML.out] at h; rw [HML.out] at h; exact (by rw [HML.out]; exact h)) (by rw [HML.out]; have := HLL.out; have := HN.out; have := HMN.out; omega) i (by rw [HML.out]; exact HIM.out)
        rw [rtD_take k L m i HIM.out, ← HD.out] at hrg
        refine hrg.mono ?_
        clear hrg x1 x2 x3 x4
        rintro e w10 ⟨rfl, hb10⟩
        have hb11 := below_alloc (Below.refl w10.heap.size w10) (.cells #[.int .u64 (i : Int), .string D] 34)
        have HK11 := Aside0.mk (blk_new w10 (.cells #[.int .u64 (i : Int), .string D] 34))
        have HK711 := Aside0.mk (blk_below (blk_below HK79.out hb10) hb11)
        have HB11 := Aside0.mk (below_weaken (below_weaken HB9.out HB9.out.size hb10) (Nat.le_trans HB9.out.size hb10.size) hb11)
        have x1 : (w10.alloc (.cells #[.int .u64 (i : Int), .string D] 34)).cell? ⟨g7, 0, none⟩ = some (.int .u64 (i : Int)) := by have h := HK711.out; unfold World.cell?; rw [h]; rfl
        have x2 : (w10.alloc (.cells #[.int .u64 (i : Int), .string D] 34)).cell? ⟨g7, 1, none⟩ = some (.string D) := by have h := HK711.out; unfold World.cell?; rw [h]; rfl
        have x3 : (w10.alloc (.cells #[.int .u64 (i : Int), .string D] 34)).cell? ⟨w10.heap.size, 0, none⟩ = some (.int .u64 (i : Int)) := by have h := HK11.out; unfold World.cell?; rw [h]; rfl
        have x4 : (w10.alloc (.cells #[.int .u64 (i : Int), .string D] 34)).cell? ⟨w10.heap.size, 1, none⟩ = some (.string D) := by have h := HK11.out; unfold World.cell?; rw [h]; rfl
        clear hb10 hb11
        go_wp2_with (first | (go_at_call 11; refine (num_calls _ _).mono ?_; rintro e _ ⟨rfl, rfl⟩))
        go_roundg k1
        case measure => exact Nat.lt_succ_self _
        case rel => exact ⟨i + 1, by rw [u3]; rfl, ⟨by have := HI.out; omega⟩, HB11⟩
      · have l1 : decide ((i : Int) ≤ (m : Int)) = false := decide_eq_false (by omega)
        have l2 : decide (i ≤ m) = false := decide_eq_false him
        clear him
        go_wp2_with (first | (go_at_call 11; refine (num_calls _ _).mono ?_; rintro e _ ⟨rfl, rfl⟩))
        go_roundg k1
        case measure => exact Nat.lt_succ_self _
        case rel => exact ⟨i + 1, by rw [u3]; rfl, ⟨by have := HI.out; omega⟩, HB9⟩
end Go.Proofs.Ytelhpamhnnjgaaa.Fo
