/- massiflaw10.ForestLong: the walk. No condition beyond those that each theorem names. -/
import Derived.Test.YtelhpamhnnjgaaaFo5
set_option linter.unusedVariables false
set_option linter.unusedSimpArgs false
namespace Go.Proofs.Ytelhpamhnnjgaaa.Fo
open Go.RowKit Go.Proofs.Ytelhpamhnnjgaaa.MB Go.Proofs.Ytelhpamhnnjgaaa.Pk Go.Proofs.YtelhpamhnnjgaaaW.PrintWords Go.Proofs.YtelhpamhnnjgaaaW.PrintLast Go.Proofs.YtelhpamhnnjgaaaW.PrintMore Go.Proofs.Ytelhpamhnnjgaaa.PForestFresh Go.Proofs.Ytelhpamhnnjgaaa.Ob
theorem u64_nn (a : Int) : 0 ≤ IntKind.u64.wrap a := by
  have h : IntKind.u64.wrap a = a % 2 ^ 64 := rfl
  rw [h]; exact Int.emod_nonneg _ (by decide)
theorem tmod_in (a m : Int) (hm : 0 < m) : 0 ≤ Int.tmod (IntKind.u64.wrap a) m ∧ Int.tmod (IntKind.u64.wrap a) m < m := ⟨Int.tmod_nonneg _ (u64_nn a), Int.tmod_lt_of_pos _ hm⟩
theorem strength_is (a : Int) : ∃ k, massiflaw10_strength.f a = some k ∧ 1 ≤ k ∧ k ≤ 32 := by
  obtain ⟨h1, h2⟩ := tmod_in a 32 (by omega)
  refine ⟨Int.tmod (IntKind.u64.wrap a) 32 + 1, ?_, by omega, by omega⟩
  unfold massiflaw10_strength.f
  rw [MB.wrap64_in (Int.tmod (IntKind.u64.wrap a) 32) (by omega) (by omega), MB.wrap64_in (Int.tmod (IntKind.u64.wrap a) 32 + 1) (by omega) (by omega)]
set_option maxHeartbeats 4000000 in
set_option maxRecDepth 100000 in
theorem long_calls (w : World) (a0 a1 a2 : Int) : Calls Try.prog 5 #[.int .i64 a0, .int .i64 a1, .int .u8 a2] w fun e w' => e = .returned (.bool true) ∧ Below w.heap.size w w' := by
  obtain ⟨k, hk, k1, k2⟩ := strength_is a0
  have HK := Aside0.mk hk
  have HK2 := Aside0.mk (And.intro k1 k2)
  obtain ⟨z1, z2⟩ := tmod_in a1 3 (by omega)
  obtain ⟨z, hz⟩ : ∃ z, z = Int.tmod (IntKind.u64.wrap a1) 3 := ⟨_, rfl⟩
  rw [← hz] at z1 z2
  have e0 : wrap64 (Int.tmod (IntKind.u64.wrap a1) 3) = z := by rw [← hz]; exact MB.wrap64_in _ (by omega) (by omega)
  have e1 : wrap64 (1048576 + z) = 1048576 + z := MB.wrap64_in _ (by omega) (by omega)
  obtain ⟨n, hn⟩ : ∃ n : Nat, (n : Int) = 1048576 + z - 1 := ⟨(1048576 + z - 1).toNat, by omega⟩
  have e2 : wrap64 (1048576 + z - 1) = (n : Int) := by rw [hn]; exact MB.wrap64_in _ (by omega) (by omega)
  have HN := Aside0.mk (show 1048575 ≤ n ∧ n ≤ 1048577 from by omega)
  clear hk k1 k2 hz z1 z2 hn
  go_enter Try.func5, Try.ntmps5
  go_wp2_with (fail)
  refine (alive_calls _).mono ?_
  rintro e w1 ⟨rfl, hb1⟩
  have HB1 := Aside0.mk hb1
  clear hb1
  go_wp2_with (fail)
  refine (massiflaw10_strength.calls a0 k _ HK.out).mono ?_
  rintro e w2 ⟨rfl, hd2⟩
  have HB2 := Aside0.mk (below_weaken HB1.out HB1.out.size hd2.below)
  clear hd2
  go_wp2_with (fail)
  refine (new_ok w2 k HK2.out.1 HK2.out.2).mono ?_
  rintro e w3 ⟨hb, rfl, hr, hb3⟩
  have HR3 := Aside0.mk hr.bound
  have HB3 := Aside0.mk (below_weaken HB2.out HB2.out.size hb3)
  have HZ2 := Aside0.mk HB2.out.size
  clear hr hb3
  have g1 : (0 : Int) ≤ (n : Int) := by omega
  have g2 : (n : Int).toNat * 1 ≤ 281474976710656 := by have := HN.out; omega
  go_wp2_with (first | (go_at_call 11; refine (num_calls _ _).mono ?_; rintro e _ ⟨rfl, rfl⟩) | ((with_reducible refine gate_dst (N := 37) rfl ?_); refine Kd.R_make (Kd.int .u8) (w0 := w) w.heap.size 5 rfl (N := 37) rfl 60 _ _ rfl (n : Int) (congrArg (Value.int .i64) e2) (congrArg (Value.int .i64) e2) Try.underlying60 (.int .u8 0) 1 info5 rfl (by decide) (by omega) 0 (ok := fun j => w3.heap.size ≤ j) (okp := fun _ => False) rfl (fun _ hk => hk.elim) (Nat.le_refl _) g1 g2 HB3.out HB3.out.size ?_; intro v4 w4 ho hb4 hg4 hn4; have HO4 := Aside0.mk ho; have HB4 := Aside0.mk hb4; have HG4 := Aside0.mk hg4; clear ho hb4 hg4 hn4; rw [e2]))
  clear e0 e1 e2 g1 g2
  rw [Int.toNat_natCast] at HO4
  have HR4 := Aside0.mk (HR3.out.kept (Kp.grown (Kp.refl w3 (fun _ => False)) HG4.out (fun j hj => by cases hj)) (fun _ _ h => h.elim))
  obtain ⟨g4, c4, rfl, gb, gl, _⟩ := Kd.R_form HO4.out (by rw [List.length_replicate]; have := HN.out; omega)
  rw [List.length_replicate] at HO4 ⊢
  have HGB := Aside0.mk (show w3.heap.size ≤ g4 from ((Kd.R_bound HO4.out).1 g4 rfl).1)
  have HGL := Aside0.mk gl
  clear gb gl
  have HL3 := Aside0.mk HG4.out.size
  go_loopg [11] n (fun kq v11 w' => ∃ (i : Nat) (x : List Int), v11 = .int .i64 (i : Int) ∧ Aside0 (i + kq = n) ∧ Aside0 (x.length = n) ∧ Aside0 (Kd.R (Kd.int .u8) 5 w' w.heap.size (fun j => w3.heap.size ≤ j) (.slice (some ⟨g4, 0, none⟩) n c4) x) ∧ Aside0 (Below w.heap.size w w') ∧ Aside0 (Fr w' hb (fun j => w2.heap.size ≤ j ∧ j < w3.heap.size) k 0 (fo k [])))
  case atStart => exact ⟨0, List.replicate n 0, by rfl, ⟨by omega⟩, ⟨List.length_replicate ..⟩, HO4, HB4, ⟨HR4.out⟩⟩
  case round =>
    obtain ⟨i, x, rfl, HI, HX, HO, HB, HR⟩ := hrel
    cases gk with
    | zero =>
      have hlt : decide ((i : Int) < (n : Int)) = false := decide_eq_false (by have := HI.out; omega)
      have hlt' : decide (i < n) = false := decide_eq_false (by have := HI.out; omega)
      have hcv := own_string (P := Try.prog) Try.underlying60 Try.underlying5 Try.underlying9 (Kd.own_of_R HO.out)
      have HOK := Aside0.mk (show ∀ j, (w2.heap.size ≤ j ∧ j < w3.heap.size) → w3.heap.size ≤ j → False from fun j h1 h2 => by omega)
      have hsz : (strOfNums x).size = n := by rw [MH.str_size]; exact HX.out
      obtain ⟨s, hs⟩ : ∃ s, s = strOfNums x := ⟨_, rfl⟩
      rw [← hs] at hcv hsz
      have HSZ := Aside0.mk hsz
      have HW3 := Aside0.mk (show w3.heap.size ≤ wr.heap.size from by have h1 := HGB.out; have h2 := (Kd.R_form HO.out (by rw [HX.out]; have := HN.out; omega)); obtain ⟨g', c', e', _, h3, _⟩ := h2; injection e' with e'; injection e' with e'; injection e' with e'; omega)
      have HST := Aside0.mk hs
      clear hs hsz
      by_cases hbig : 1048576 < n
      · have t1 : decide ((n : Int) > 1048576) = true := decide_eq_true (by omega)
        have t2 : decide ((1048576 : Int) < n) = true := decide_eq_true (by omega)
        have t3 : decide (1048576 < n) = true := decide_eq_true (by omega)
        have HBIG := Aside0.mk hbig
        clear hbig
        go_wp2_with (fail)
        refine (append_long wr hb s (by rw [HSZ.out]; exact HBIG.out)).mono ?_
        rintro e w5 ⟨rfl, hb5⟩
        have HB5 := Aside0.mk (below_weaken HB.out HB.out.size hb5)
        have HR5 := Aside0.mk (HR.out.below hb5)
        clear hb5 hcv
        go_wp2_with (first | (go_at_call 11; refine (num_calls _ _).mono ?_; rintro e _ ⟨rfl, rfl⟩) | (go_at_call 14; refine (size_calls _ hb _ k 0 _ HR5.out).mono ?_; rintro e w7 ⟨rfl, hb7⟩; have HB7 := Aside0.mk (below_weaken HB5.out HB5.out.size hb7); clear hb7))
        go_ret
        exact ⟨rfl, HB7.out⟩
      · have t1 : decide ((n : Int) > 1048576) = false := decide_eq_false (by omega)
        have t2 : decide ((1048576 : Int) < n) = false := decide_eq_false (by omega)
        have t3 : decide (1048576 < n) = false := decide_eq_false (by omega)
        have HBIG := Aside0.mk hbig
        clear hbig
        go_wp2_with (fail)
        refine (append_ok wr hb _ k [] s HR.out HK2.out.1 HK2.out.2 (by simp) (by rw [HSZ.out]; have := HBIG.out; omega)).mono ?_
        intro e w5 hA
        obtain ⟨A1, c1, rfl, hl, hr, hk⟩ := hA.told HW3.out
        simp only [List.length_nil, t1_0] at hl hr ⊢
        rw [show madeL k ([] ++ [s]) 0 0 = [MH.lf k s] from madeL_zero k [] s] at hl
        have HL5 := Aside0.mk hl
        have HR5 := Aside0.mk hr
        have HB5 := Aside0.mk (Kp.old HB.out HB.out.size hk (fun j hj => Nat.le_trans HZ2.out hj.1))
        have HO5 := Aside0.mk (Kd.R_step HO.out (fun j hj hl => hk.keep j hl (fun h => by omega)))
        have HCV5 := Aside0.mk (show ∀ W, Below w5.heap.size w5 W → (convert 60 9 (.slice (some ⟨g4, 0, none⟩) n c4)).run Try.prog W = .ok (.string s) W from fun W hW => by rw [HST.out]; exact own_string (P := Try.prog) Try.underlying60 Try.underlying5 Try.underlying9 (Kd.own_of_R (Kd.R_below HO5.out hW)))
        clear hl hr hk hA hcv
        go_wp2_with (first | (go_at_call 11; refine (num_calls _ _).mono ?_; rintro e _ ⟨rfl, rfl⟩))
        have HL := Aside0.mk (HL5.out)
        obtain ⟨-, hc1, hC1⟩ := HL5.out.C
        obtain ⟨ad, ea, hx1⟩ := Kd.at_string hC1 0 (by omega) (by simp)
        cases ea
        obtain ⟨d, hd⟩ : ∃ d, d = MH.lf k s := ⟨_, rfl⟩
        have y1 : w5.drew.cell? ad = some (.string d) := by have h : w5.cell? (ad.add 0) = some (.string (MH.lf k s)) := hx1; rw [hd, ← h]; simp [Addr.add]
        have HLF := Aside0.mk (show ∀ W, Calls Try.prog 24 #[.int .i64 k, .string s] W fun e w' => e = .returned (.string d) ∧ Below W.heap.size W w' from fun W => by
          rw [hd]; exact leaf_calls k s W (by rw [HSZ.out]; have := HBIG.out; omega))
        clear hx1 hC1 hc1 hd
        have q5 : (convert 60 9 (.slice (some ⟨g4, 0, none⟩) n c4)).run Try.prog w5.drew = .ok (.string s) w5.drew := HCV5.out _ (below_drew (Below.refl _ _))
        go_region_held3 (fun w' => w'.cell? ad = some (.string d) ∧ (convert 60 9 (.slice (some ⟨g4, 0, none⟩) n c4)).run Try.prog w' = .ok (.string s) w') (first | exact ⟨y1, q5⟩ | exact ⟨y2, q6⟩ | exact ⟨y3, q7⟩ | go_keep)
          (first | (go_at_call 11; refine (num_calls _ _).mono ?_; rintro e _ ⟨rfl, rfl⟩) | (go_at_call 24; refine (HLF.out _).mono ?_; rintro e w6 ⟨rfl, hb6⟩; have y2 := (hb6.cell (World.block_lt_of_cell? _ _ y1)).trans y1; have HBL6 := Aside0.mk hb6; have q6 := HCV5.out w6 (below_weaken (below_drew (Below.refl _ _)) (Nat.le_refl _) hb6); have HB6 := Aside0.mk (below_weaken (below_drew HB5.out) HB5.out.size hb6); have HR6 := Aside0.mk (HR5.out.below (w1 := w6) (below_weaken (below_drew (Below.refl _ _)) (Nat.le_refl _) hb6)); clear hb6) | (go_at_call 14; refine (size_calls _ hb _ k 1 _ HR6.out).mono ?_; rintro e w7 ⟨rfl, hb7⟩; have y3 := (hb7.cell (World.block_lt_of_cell? _ _ y2)).trans y2; have q7 := HCV5.out w7 (below_weaken (below_weaken (below_drew (Below.refl _ _)) (Nat.le_refl _) HBL6.out) HBL6.out.size hb7); have HB7 := Aside0.mk (below_weaken HB6.out HB6.out.size hb7); clear hb7))
        go_wp2_with (fail)
        go_ret
        exact ⟨rfl, HB7.out⟩
    | succ k1 =>
      have hil : i < n := by have := HI.out; omega
      have hlt : decide ((i : Int) < (n : Int)) = true := decide_eq_true (by omega)
      have hlt' : decide (i < n) = true := decide_eq_true hil
      have u3 : wrap64 ((i : Int) + 1) = (i : Int) + 1 := MB.wrap64_in _ (by omega) (by have := HN.out; omega)
      obtain ⟨hx0, hf0⟩ := Kd.R_celln 0 HO.out (i : Int) (by omega) (by omega)
      have HP := Kd.R_putg HO.out (i : Int) a2
      rw [Int.toNat_natCast] at hx0 hf0 HP
      have p1 : (0 : Int) ≤ (i : Int) := by omega
      have p2 : (i : Int) < (n : Int) := by omega
      go_wp2_with (fail)
      go_roundg k1
      case measure => exact Nat.lt_succ_self _
      case rel => exact ⟨i + 1, x.set i a2, by rw [u3]; rfl, ⟨by have := HI.out; omega⟩, ⟨by rw [List.length_set]; exact HX.out⟩, ⟨HP.1⟩, ⟨below_set HB.out (Nat.le_trans HB3.out.size HGB.out)⟩, ⟨HR.out.step (fun j hj hl => Below.heap_setCell _ _ _ _ (show j ≠ g4 from by have := hj.2; have := HGB.out; omega))⟩⟩
end Go.Proofs.Ytelhpamhnnjgaaa.Fo
