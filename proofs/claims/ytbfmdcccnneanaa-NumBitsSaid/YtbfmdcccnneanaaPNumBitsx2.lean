-- PRINTED BY print.sh 35421559b90ae4d0a3588c463048766b98c2df88dd9212a6774a882060cdf62d: not written by this session
import Derived.Test.YtbfmdcccnneanaaPNumBitsx0
import Derived.Test.YtbfmdcccnneanaaPNumBitsx1
namespace Go.Proofs.Ytbfmdcccnneanaa.PNumBits
open Go.RowKit Go.Proofs.YtbfmdcccnneanaaW.PrintWords Go.Proofs.YtbfmdcccnneanaaW.PrintLast Go.Proofs.YtbfmdcccnneanaaW.PrintMore
attribute [local go_sem] max2_int min2_int max_two min_two max_three min_three max_four min_four   -- for this text's walks alone
set_option linter.unusedVariables false
set_option linter.unusedSimpArgs false

/-! ### massiflaw02_NumBits: function 4 -/
mutual
def massiflaw02_NumBits.l0 : Nat → Int → Int → Int → Int → Int → Int → Option (Bool)
  | 0, _, _, _, _, _, _ => none
  | k + 1, x0, x3, x4, x5, x6, x7 => if x7 ≥ 0 then ((num_Pow.f x7).bind fun bt120 => (if bt120.2 = true then (if x3 ≥ bt120.1 then (if x4 < 0 then (massiflaw02_NumBits.l0 k x0 (IntKind.u64.wrap (x3 - bt120.1)) x7 x7 (wrap64 (x6 + 1)) (wrap64 (x7 - 1))) else (massiflaw02_NumBits.l0 k x0 (IntKind.u64.wrap (x3 - bt120.1)) x4 x7 (wrap64 (x6 + 1)) (wrap64 (x7 - 1)))) else (massiflaw02_NumBits.l0 k x0 x3 x4 x5 x6 (wrap64 (x7 - 1)))) else (some false))) else (if x3 = 0 then ((num_Ones.f k x0).bind fun t122 => (if t122 = x6 then ((num_Log.f k x0).bind fun t123 => (if t123 = x4 then ((num_Trail.f k x0).bind fun t124 => (if t124 = x5 then ((num_Ones.f k (IntKind.u64.wrap (x0 - 1))).bind fun t125 => (massiflaw02_NumBits.j1 k x0 x4 x6 (t125 != (wrap64 ((wrap64 (x6 - 1)) + x5))))) else (massiflaw02_NumBits.j1 k x0 x4 x6 true))) else (massiflaw02_NumBits.j1 k x0 x4 x6 true))) else (massiflaw02_NumBits.j1 k x0 x4 x6 true))) else (massiflaw02_NumBits.j1 k x0 x4 x6 true))
def massiflaw02_NumBits.j1 : Nat → Int → Int → Int → Bool → Option (Bool)
  | 0, _, _, _, _ => none
  | k + 1, x0, x4, x6, x86 => if x86 = true then (some false) else ((num_Ceil.f k x0).bind fun t126 => (if x6 = 1 then (some (t126 == x4)) else (some (t126 == (wrap64 (x4 + 1))))))
end
def massiflaw02_NumBits.f (k : Nat) (a0 : Int) : Option (Bool) := (massiflaw02_alive.f k).bind fun t115 => (if t115 = true then (if a0 = 0 then ((num_Ones.f k a0).bind fun t116 => (if t116 = 0 then ((num_Log.f k a0).bind fun t117 => (if t117 = (-1) then ((num_Ceil.f k a0).bind fun t118 => (if t118 = 0 then ((num_Trail.f k a0).bind fun t119 => (some (t119 == 64))) else (some false))) else (some false))) else (some false))) else (massiflaw02_NumBits.l0 k a0 a0 (-1) (-1) 0 63)) else (some false))
theorem massiflaw02_NumBits.mono_l : ∀ k, (∀ y0 y1 y2 y3 y4 y5, LeO (massiflaw02_NumBits.l0 k y0 y1 y2 y3 y4 y5) (massiflaw02_NumBits.l0 (k + 1) y0 y1 y2 y3 y4 y5)) ∧ (∀ y0 y1 y2 y3, LeO (massiflaw02_NumBits.j1 k y0 y1 y2 y3) (massiflaw02_NumBits.j1 (k + 1) y0 y1 y2 y3))
  | 0 => ⟨fun _ _ _ _ _ _ r h => by simp [massiflaw02_NumBits.l0] at h, fun _ _ _ _ r h => by simp [massiflaw02_NumBits.j1] at h⟩
  | k + 1 => by
    obtain ⟨ih0, ih1⟩ := massiflaw02_NumBits.mono_l k
    refine ⟨?_, ?_⟩
    · intro y0 y1 y2 y3 y4 y5
      unfold massiflaw02_NumBits.l0
      repeat' first
      | (with_reducible exact ih0 _ _ _ _ _ _)
      | (with_reducible exact ih1 _ _ _ _)
      | (with_reducible exact massiflaw02_alive.mono _)
      | (with_reducible exact num_Ceil.mono _ _)
      | (with_reducible exact num_Log.mono _ _)
      | (with_reducible exact num_Ones.mono _ _)
      | (with_reducible exact num_Trail.mono _ _)
      | (with_reducible exact LeO.refl _)
      | (with_reducible exact LeO.none _)
      | (with_reducible refine LeO.ite ?_ ?_)
      | (with_reducible refine LeO.bind ?_ (fun _ => ?_))
      | exact ih0 _ _ _ _ _ _
      | exact ih1 _ _ _ _
      | exact massiflaw02_alive.mono _
      | exact num_Ceil.mono _ _
      | exact num_Log.mono _ _
      | exact num_Ones.mono _ _
      | exact num_Trail.mono _ _
      | exact LeO.none _
      | refine LeO.ite ?_ ?_
      | refine LeO.bind ?_ (fun _ => ?_)
    · intro y0 y1 y2 y3
      unfold massiflaw02_NumBits.j1
      repeat' first
      | (with_reducible exact ih0 _ _ _ _ _ _)
      | (with_reducible exact ih1 _ _ _ _)
      | (with_reducible exact massiflaw02_alive.mono _)
      | (with_reducible exact num_Ceil.mono _ _)
      | (with_reducible exact num_Log.mono _ _)
      | (with_reducible exact num_Ones.mono _ _)
      | (with_reducible exact num_Trail.mono _ _)
      | (with_reducible exact LeO.refl _)
      | (with_reducible exact LeO.none _)
      | (with_reducible refine LeO.ite ?_ ?_)
      | (with_reducible refine LeO.bind ?_ (fun _ => ?_))
      | exact ih0 _ _ _ _ _ _
      | exact ih1 _ _ _ _
      | exact massiflaw02_alive.mono _
      | exact num_Ceil.mono _ _
      | exact num_Log.mono _ _
      | exact num_Ones.mono _ _
      | exact num_Trail.mono _ _
      | exact LeO.none _
      | refine LeO.ite ?_ ?_
      | refine LeO.bind ?_ (fun _ => ?_)
theorem massiflaw02_NumBits.mono : ∀ a0 k, LeO (massiflaw02_NumBits.f k a0) (massiflaw02_NumBits.f (k + 1) a0) := by
  intro a0 k
  obtain ⟨ih0, ih1⟩ := massiflaw02_NumBits.mono_l k
  unfold massiflaw02_NumBits.f
  repeat' first
      | (with_reducible exact ih0 _ _ _ _ _ _)
      | (with_reducible exact ih1 _ _ _ _)
      | (with_reducible exact massiflaw02_alive.mono _)
      | (with_reducible exact num_Ceil.mono _ _)
      | (with_reducible exact num_Log.mono _ _)
      | (with_reducible exact num_Ones.mono _ _)
      | (with_reducible exact num_Trail.mono _ _)
      | (with_reducible exact LeO.refl _)
      | (with_reducible exact LeO.none _)
      | (with_reducible refine LeO.ite ?_ ?_)
      | (with_reducible refine LeO.bind ?_ (fun _ => ?_))
      | exact ih0 _ _ _ _ _ _
      | exact ih1 _ _ _ _
      | exact massiflaw02_alive.mono _
      | exact num_Ceil.mono _ _
      | exact num_Log.mono _ _
      | exact num_Ones.mono _ _
      | exact num_Trail.mono _ _
      | exact LeO.none _
      | refine LeO.ite ?_ ?_
      | refine LeO.bind ?_ (fun _ => ?_)
set_option maxHeartbeats 8000000 in
set_option maxRecDepth 100000 in
theorem massiflaw02_NumBits.calls (k : Nat) (a0 : Int) (r : Bool) (w : World) (h : massiflaw02_NumBits.f k a0 = some r) :
    Calls Try.prog 4 #[.int .u64 a0] w fun e w' => e = .returned (.bool r) ∧ Drawn0 w w' := by
  have H : ((massiflaw02_alive.f k).bind fun t115 => (if t115 = true then (if a0 = 0 then ((num_Ones.f k a0).bind fun t116 => (if t116 = 0 then ((num_Log.f k a0).bind fun t117 => (if t117 = (-1) then ((num_Ceil.f k a0).bind fun t118 => (if t118 = 0 then ((num_Trail.f k a0).bind fun t119 => (some (t119 == 64))) else (some false))) else (some false))) else (some false))) else (massiflaw02_NumBits.l0 k a0 a0 (-1) (-1) 0 63)) else (some false))) = some r := h
  clear h
  replace H := Option.bind_eq_some_iff.mp H
  obtain ⟨t115, A20, H⟩ := H
  replace H : (if t115 = true then (if a0 = 0 then ((num_Ones.f k a0).bind fun t116 => (if t116 = 0 then ((num_Log.f k a0).bind fun t117 => (if t117 = (-1) then ((num_Ceil.f k a0).bind fun t118 => (if t118 = 0 then ((num_Trail.f k a0).bind fun t119 => (some (t119 == 64))) else (some false))) else (some false))) else (some false))) else (massiflaw02_NumBits.l0 k a0 a0 (-1) (-1) 0 63)) else (some false)) = some r := H
  have A2 := Aside0.mk A20
  clear A20
  by_cases c3 : t115 = true
  · subst c3
    have H1 : (if a0 = 0 then ((num_Ones.f k a0).bind fun t116 => (if t116 = 0 then ((num_Log.f k a0).bind fun t117 => (if t117 = (-1) then ((num_Ceil.f k a0).bind fun t118 => (if t118 = 0 then ((num_Trail.f k a0).bind fun t119 => (some (t119 == 64))) else (some false))) else (some false))) else (some false))) else (massiflaw02_NumBits.l0 k a0 a0 (-1) (-1) 0 63)) = some r := by rw [if_pos rfl] at H; exact H
    clear H
    have H := H1
    clear H1
    by_cases c4 : a0 = 0
    · rw [if_pos c4] at H
      have c4b0 : (a0 == 0) = true := beq_iff_eq.mpr c4
      have c4b1 : (a0 != 0) = false := bne_eq_false_iff_eq.mpr c4
      clear c4
      replace H := Option.bind_eq_some_iff.mp H
      obtain ⟨t116, A50, H⟩ := H
      replace H : (if t116 = 0 then ((num_Log.f k a0).bind fun t117 => (if t117 = (-1) then ((num_Ceil.f k a0).bind fun t118 => (if t118 = 0 then ((num_Trail.f k a0).bind fun t119 => (some (t119 == 64))) else (some false))) else (some false))) else (some false)) = some r := H
      have A5 := Aside0.mk A50
      clear A50
      by_cases c6 : t116 = 0
      · rw [if_pos c6] at H
        have c6b0 : (t116 == 0) = true := beq_iff_eq.mpr c6
        have c6b1 : (t116 != 0) = false := bne_eq_false_iff_eq.mpr c6
        clear c6
        replace H := Option.bind_eq_some_iff.mp H
        obtain ⟨t117, A70, H⟩ := H
        replace H : (if t117 = (-1) then ((num_Ceil.f k a0).bind fun t118 => (if t118 = 0 then ((num_Trail.f k a0).bind fun t119 => (some (t119 == 64))) else (some false))) else (some false)) = some r := H
        have A7 := Aside0.mk A70
        clear A70
        by_cases c8 : t117 = (-1)
        · rw [if_pos c8] at H
          have c8b0 : (t117 == (-1)) = true := beq_iff_eq.mpr c8
          have c8b1 : (t117 != (-1)) = false := bne_eq_false_iff_eq.mpr c8
          clear c8
          replace H := Option.bind_eq_some_iff.mp H
          obtain ⟨t118, A90, H⟩ := H
          replace H : (if t118 = 0 then ((num_Trail.f k a0).bind fun t119 => (some (t119 == 64))) else (some false)) = some r := H
          have A9 := Aside0.mk A90
          clear A90
          by_cases c10 : t118 = 0
          · rw [if_pos c10] at H
            have c10b0 : (t118 == 0) = true := beq_iff_eq.mpr c10
            have c10b1 : (t118 != 0) = false := bne_eq_false_iff_eq.mpr c10
            clear c10
            replace H := Option.bind_eq_some_iff.mp H
            obtain ⟨t119, A110, H⟩ := H
            replace H : (some (t119 == 64)) = some r := H
            have A11 := Aside0.mk A110
            clear A110
            obtain rfl := Option.some.inj H
            go_enter Try.func4, Try.ntmps4
            go_wp2_with (first | ((with_reducible refine gate_callee (f := 10) rfl ?_); refine goesL_ (some 11) rfl rfl Try.func10 (by kernel_rfl) rfl #[] rfl (by (try simp only [List.map_toArray, List.map_cons, List.map_nil]); first | done | rfl | (simp only [List.length_drop, List.length_take]; rfl)) ?_; (with_reducible refine (massiflaw02_alive.calls k  true _ A2.out).mono ?_); rintro e w' ⟨rfl, ⟨nd, rfl⟩⟩; refine ⟨_, rfl, ?_⟩) | ((with_reducible refine gate_callee (f := 15) rfl ?_); refine goesL_ (some 16) rfl rfl Try.func15 (by kernel_rfl) rfl #[.int .u64 a0] rfl (by (try simp only [List.map_toArray, List.map_cons, List.map_nil]); first | done | rfl | (simp only [List.length_drop, List.length_take]; rfl)) ?_; (with_reducible refine (num_Ones.calls k a0 t116 _ A5.out).mono ?_); rintro e w' ⟨rfl, ⟨nd, rfl⟩⟩; refine ⟨_, rfl, ?_⟩) | (go_at_call 17; (with_reducible refine (num_Log.calls k a0 t117 _ A7.out).mono ?_); rintro e w' ⟨rfl, ⟨nd, rfl⟩⟩) | (go_at_call 19; (with_reducible refine (num_Ceil.calls k a0 t118 _ A9.out).mono ?_); rintro e w' ⟨rfl, ⟨nd, rfl⟩⟩) | (go_at_call 21; (with_reducible refine (num_Trail.calls k a0 t119 _ A11.out).mono ?_); rintro e w' ⟨rfl, ⟨nd, rfl⟩⟩))
            go_ret
            exact ⟨by first | rfl | (simp; done) | (simp [*]; done), by repeat (first | exact Drawn0.refl _ | apply Drawn0.step)⟩
          · rw [if_neg c10] at H
            have c10b0 : (t118 == 0) = false := beq_eq_false_iff_ne.mpr c10
            have c10b1 : (t118 != 0) = true := bne_iff_ne.mpr c10
            obtain rfl := Option.some.inj H
            go_enter Try.func4, Try.ntmps4
            go_wp2_with (first | ((with_reducible refine gate_callee (f := 10) rfl ?_); refine goesL_ (some 11) rfl rfl Try.func10 (by kernel_rfl) rfl #[] rfl (by (try simp only [List.map_toArray, List.map_cons, List.map_nil]); first | done | rfl | (simp only [List.length_drop, List.length_take]; rfl)) ?_; (with_reducible refine (massiflaw02_alive.calls k  true _ A2.out).mono ?_); rintro e w' ⟨rfl, ⟨nd, rfl⟩⟩; refine ⟨_, rfl, ?_⟩) | ((with_reducible refine gate_callee (f := 15) rfl ?_); refine goesL_ (some 16) rfl rfl Try.func15 (by kernel_rfl) rfl #[.int .u64 a0] rfl (by (try simp only [List.map_toArray, List.map_cons, List.map_nil]); first | done | rfl | (simp only [List.length_drop, List.length_take]; rfl)) ?_; (with_reducible refine (num_Ones.calls k a0 t116 _ A5.out).mono ?_); rintro e w' ⟨rfl, ⟨nd, rfl⟩⟩; refine ⟨_, rfl, ?_⟩) | (go_at_call 17; (with_reducible refine (num_Log.calls k a0 t117 _ A7.out).mono ?_); rintro e w' ⟨rfl, ⟨nd, rfl⟩⟩) | (go_at_call 19; (with_reducible refine (num_Ceil.calls k a0 t118 _ A9.out).mono ?_); rintro e w' ⟨rfl, ⟨nd, rfl⟩⟩))
            go_ret
            exact ⟨by first | rfl | (simp; done) | (simp [*]; done), by repeat (first | exact Drawn0.refl _ | apply Drawn0.step)⟩
        · rw [if_neg c8] at H
          have c8b0 : (t117 == (-1)) = false := beq_eq_false_iff_ne.mpr c8
          have c8b1 : (t117 != (-1)) = true := bne_iff_ne.mpr c8
          obtain rfl := Option.some.inj H
          go_enter Try.func4, Try.ntmps4
          go_wp2_with (first | ((with_reducible refine gate_callee (f := 10) rfl ?_); refine goesL_ (some 11) rfl rfl Try.func10 (by kernel_rfl) rfl #[] rfl (by (try simp only [List.map_toArray, List.map_cons, List.map_nil]); first | done | rfl | (simp only [List.length_drop, List.length_take]; rfl)) ?_; (with_reducible refine (massiflaw02_alive.calls k  true _ A2.out).mono ?_); rintro e w' ⟨rfl, ⟨nd, rfl⟩⟩; refine ⟨_, rfl, ?_⟩) | ((with_reducible refine gate_callee (f := 15) rfl ?_); refine goesL_ (some 16) rfl rfl Try.func15 (by kernel_rfl) rfl #[.int .u64 a0] rfl (by (try simp only [List.map_toArray, List.map_cons, List.map_nil]); first | done | rfl | (simp only [List.length_drop, List.length_take]; rfl)) ?_; (with_reducible refine (num_Ones.calls k a0 t116 _ A5.out).mono ?_); rintro e w' ⟨rfl, ⟨nd, rfl⟩⟩; refine ⟨_, rfl, ?_⟩) | (go_at_call 17; (with_reducible refine (num_Log.calls k a0 t117 _ A7.out).mono ?_); rintro e w' ⟨rfl, ⟨nd, rfl⟩⟩))
          go_ret
          exact ⟨by first | rfl | (simp; done) | (simp [*]; done), by repeat (first | exact Drawn0.refl _ | apply Drawn0.step)⟩
      · rw [if_neg c6] at H
        have c6b0 : (t116 == 0) = false := beq_eq_false_iff_ne.mpr c6
        have c6b1 : (t116 != 0) = true := bne_iff_ne.mpr c6
        obtain rfl := Option.some.inj H
        go_enter Try.func4, Try.ntmps4
        go_wp2_with (first | ((with_reducible refine gate_callee (f := 10) rfl ?_); refine goesL_ (some 11) rfl rfl Try.func10 (by kernel_rfl) rfl #[] rfl (by (try simp only [List.map_toArray, List.map_cons, List.map_nil]); first | done | rfl | (simp only [List.length_drop, List.length_take]; rfl)) ?_; (with_reducible refine (massiflaw02_alive.calls k  true _ A2.out).mono ?_); rintro e w' ⟨rfl, ⟨nd, rfl⟩⟩; refine ⟨_, rfl, ?_⟩) | ((with_reducible refine gate_callee (f := 15) rfl ?_); refine goesL_ (some 16) rfl rfl Try.func15 (by kernel_rfl) rfl #[.int .u64 a0] rfl (by (try simp only [List.map_toArray, List.map_cons, List.map_nil]); first | done | rfl | (simp only [List.length_drop, List.length_take]; rfl)) ?_; (with_reducible refine (num_Ones.calls k a0 t116 _ A5.out).mono ?_); rintro e w' ⟨rfl, ⟨nd, rfl⟩⟩; refine ⟨_, rfl, ?_⟩))
        go_ret
        exact ⟨by first | rfl | (simp; done) | (simp [*]; done), by repeat (first | exact Drawn0.refl _ | apply Drawn0.step)⟩
    · rw [if_neg c4] at H
      have c4b0 : (a0 == 0) = false := beq_eq_false_iff_ne.mpr c4
      have c4b1 : (a0 != 0) = true := bne_iff_ne.mpr c4
      have H' := Aside0.mk H
      clear H
      go_enter Try.func4, Try.ntmps4
      go_wp2_with (first | ((with_reducible refine gate_callee (f := 10) rfl ?_); refine goesL_ (some 11) rfl rfl Try.func10 (by kernel_rfl) rfl #[] rfl (by (try simp only [List.map_toArray, List.map_cons, List.map_nil]); first | done | rfl | (simp only [List.length_drop, List.length_take]; rfl)) ?_; (with_reducible refine (massiflaw02_alive.calls k  true _ A2.out).mono ?_); rintro e w' ⟨rfl, ⟨nd, rfl⟩⟩; refine ⟨_, rfl, ?_⟩))
      go_loopg [3, 4, 5, 6, 7] k (fun kq v3 v4 v5 v6 v7 w' => ∃ (x3_1 : Int) (x4_1 : Int) (x5_1 : Int) (x6_1 : Int) (x7_1 : Int), v3 = .int .u64 x3_1 ∧ v4 = .int .i64 x4_1 ∧ v5 = .int .i64 x5_1 ∧ v6 = .int .i64 x6_1 ∧ v7 = .int .i64 x7_1 ∧ Aside0 (massiflaw02_NumBits.l0 kq a0 x3_1 x4_1 x5_1 x6_1 x7_1 = some r) ∧ Aside0 (kq ≤ k) ∧ Drawn0 w w')
      case atStart => exact ⟨(a0), ((-1)), ((-1)), (0), (63), (by first | rfl | (simp; done) | (simp [*]; done)), (by first | rfl | (simp; done) | (simp [*]; done)), (by first | rfl | (simp; done) | (simp [*]; done)), (by first | rfl | (simp; done) | (simp [*]; done)), (by first | rfl | (simp; done) | (simp [*]; done)), H', ⟨Nat.le_refl _⟩, by repeat (first | exact Drawn0.refl _ | apply Drawn0.step)⟩
      case round =>
        clear H'
        try clear c1
        try clear p2
        try clear c3
        try clear c4
        try clear c4b0
        try clear c4b1
        try clear c6
        try clear c6b0
        try clear c6b1
        try clear c8
        try clear c8b0
        try clear c8b1
        try clear c10
        try clear c10b0
        try clear c10b1
        obtain ⟨x3_1, x4_1, x5_1, x6_1, x7_1, rfl, rfl, rfl, rfl, rfl, HA, HK1, ⟨m1, rfl⟩⟩ := hrel
        cases gk with
        | zero => exact absurd HA.out (by simp [massiflaw02_NumBits.l0])
        | succ k1 =>
          have H := HA.out
          clear HA
          simp only [massiflaw02_NumBits.l0] at H
          by_cases c12 : x7_1 ≥ 0
          · rw [if_pos c12] at H
            have c12b0 : decide (0 ≤ x7_1) = true := decide_eq_true c12
            clear c12
            replace H := Option.bind_eq_some_iff.mp H
            obtain ⟨⟨t120, t121⟩, A130, H⟩ := H
            replace H : (if t121 = true then (if x3_1 ≥ t120 then (if x4_1 < 0 then (massiflaw02_NumBits.l0 k1 a0 (IntKind.u64.wrap (x3_1 - t120)) x7_1 x7_1 (wrap64 (x6_1 + 1)) (wrap64 (x7_1 - 1))) else (massiflaw02_NumBits.l0 k1 a0 (IntKind.u64.wrap (x3_1 - t120)) x4_1 x7_1 (wrap64 (x6_1 + 1)) (wrap64 (x7_1 - 1)))) else (massiflaw02_NumBits.l0 k1 a0 x3_1 x4_1 x5_1 x6_1 (wrap64 (x7_1 - 1)))) else (some false)) = some r := H
            have A13 := Aside0.mk A130
            clear A130
            by_cases c14 : t121 = true
            · subst c14
              have H1 : (if x3_1 ≥ t120 then (if x4_1 < 0 then (massiflaw02_NumBits.l0 k1 a0 (IntKind.u64.wrap (x3_1 - t120)) x7_1 x7_1 (wrap64 (x6_1 + 1)) (wrap64 (x7_1 - 1))) else (massiflaw02_NumBits.l0 k1 a0 (IntKind.u64.wrap (x3_1 - t120)) x4_1 x7_1 (wrap64 (x6_1 + 1)) (wrap64 (x7_1 - 1)))) else (massiflaw02_NumBits.l0 k1 a0 x3_1 x4_1 x5_1 x6_1 (wrap64 (x7_1 - 1)))) = some r := by rw [if_pos rfl] at H; exact H
              clear H
              have H := H1
              clear H1
              by_cases c15 : x3_1 ≥ t120
              · rw [if_pos c15] at H
                have c15b0 : decide (t120 ≤ x3_1) = true := decide_eq_true c15
                clear c15
                by_cases c16 : x4_1 < 0
                · rw [if_pos c16] at H
                  have c16b0 : decide (x4_1 < 0) = true := decide_eq_true c16
                  clear c16
                  have H' := Aside0.mk H
                  clear H
                  go_wp2_with (first | ((with_reducible refine gate_callee (f := 11) rfl ?_); refine goesL_ (some 40) rfl rfl Try.func11 (by kernel_rfl) rfl #[.int .i64 x7_1] rfl (by (try simp only [List.map_toArray, List.map_cons, List.map_nil]); first | done | rfl | (simp only [List.length_drop, List.length_take]; rfl)) ?_; (with_reducible refine (num_Pow.calls x7_1 t120 true _ A13.out).mono ?_); rintro e w' ⟨rfl, ⟨nd, rfl⟩⟩; refine ⟨_, rfl, ?_⟩))
                  go_roundg k1
                  case measure => have := HK1.out; omega
                  case rel => exact ⟨(IntKind.u64.wrap (x3_1 - t120)), (x7_1), (x7_1), (wrap64 (x6_1 + 1)), (wrap64 (x7_1 - 1)), (by first | rfl | (simp; done) | (simp [*]; done)), (by first | rfl | (simp; done) | (simp [*]; done)), (by first | rfl | (simp; done) | (simp [*]; done)), (by first | rfl | (simp; done) | (simp [*]; done)), (by first | rfl | (simp; done) | (simp [*]; done)), H', ⟨by have := HK1.out; omega⟩, by repeat (first | exact Drawn0.refl _ | apply Drawn0.step)⟩
                · rw [if_neg c16] at H
                  have c16b0 : decide (x4_1 < 0) = false := decide_eq_false c16
                  clear c16
                  have H' := Aside0.mk H
                  clear H
                  go_wp2_with (first | ((with_reducible refine gate_callee (f := 11) rfl ?_); refine goesL_ (some 40) rfl rfl Try.func11 (by kernel_rfl) rfl #[.int .i64 x7_1] rfl (by (try simp only [List.map_toArray, List.map_cons, List.map_nil]); first | done | rfl | (simp only [List.length_drop, List.length_take]; rfl)) ?_; (with_reducible refine (num_Pow.calls x7_1 t120 true _ A13.out).mono ?_); rintro e w' ⟨rfl, ⟨nd, rfl⟩⟩; refine ⟨_, rfl, ?_⟩))
                  go_roundg k1
                  case measure => have := HK1.out; omega
                  case rel => exact ⟨(IntKind.u64.wrap (x3_1 - t120)), (x4_1), (x7_1), (wrap64 (x6_1 + 1)), (wrap64 (x7_1 - 1)), (by first | rfl | (simp; done) | (simp [*]; done)), (by first | rfl | (simp; done) | (simp [*]; done)), (by first | rfl | (simp; done) | (simp [*]; done)), (by first | rfl | (simp; done) | (simp [*]; done)), (by first | rfl | (simp; done) | (simp [*]; done)), H', ⟨by have := HK1.out; omega⟩, by repeat (first | exact Drawn0.refl _ | apply Drawn0.step)⟩
              · rw [if_neg c15] at H
                have c15b0 : decide (t120 ≤ x3_1) = false := decide_eq_false c15
                clear c15
                have H' := Aside0.mk H
                clear H
                go_wp2_with (first | ((with_reducible refine gate_callee (f := 11) rfl ?_); refine goesL_ (some 40) rfl rfl Try.func11 (by kernel_rfl) rfl #[.int .i64 x7_1] rfl (by (try simp only [List.map_toArray, List.map_cons, List.map_nil]); first | done | rfl | (simp only [List.length_drop, List.length_take]; rfl)) ?_; (with_reducible refine (num_Pow.calls x7_1 t120 true _ A13.out).mono ?_); rintro e w' ⟨rfl, ⟨nd, rfl⟩⟩; refine ⟨_, rfl, ?_⟩))
                go_roundg k1
                case measure => have := HK1.out; omega
                case rel => exact ⟨(x3_1), (x4_1), (x5_1), (x6_1), (wrap64 (x7_1 - 1)), (by first | rfl | (simp; done) | (simp [*]; done)), (by first | rfl | (simp; done) | (simp [*]; done)), (by first | rfl | (simp; done) | (simp [*]; done)), (by first | rfl | (simp; done) | (simp [*]; done)), (by first | rfl | (simp; done) | (simp [*]; done)), H', ⟨by have := HK1.out; omega⟩, by repeat (first | exact Drawn0.refl _ | apply Drawn0.step)⟩
            · replace c14 := Bool.eq_false_iff.mpr c14
              subst c14
              have H1 : (some false) = some r := by rw [if_neg (show ¬ (false = true) by decide)] at H; exact H
              clear H
              have H := H1
              clear H1
              obtain rfl := Option.some.inj H
              go_wp2_with (first | ((with_reducible refine gate_callee (f := 11) rfl ?_); refine goesL_ (some 40) rfl rfl Try.func11 (by kernel_rfl) rfl #[.int .i64 x7_1] rfl (by (try simp only [List.map_toArray, List.map_cons, List.map_nil]); first | done | rfl | (simp only [List.length_drop, List.length_take]; rfl)) ?_; (with_reducible refine (num_Pow.calls x7_1 t120 false _ A13.out).mono ?_); rintro e w' ⟨rfl, ⟨nd, rfl⟩⟩; refine ⟨_, rfl, ?_⟩))
              go_ret
              exact ⟨by first | rfl | (simp; done) | (simp [*]; done), by repeat (first | exact Drawn0.refl _ | apply Drawn0.step)⟩
          · rw [if_neg c12] at H
            have c12b0 : decide (0 ≤ x7_1) = false := decide_eq_false c12
            clear c12
            have HC17 := Aside0.mk H
            clear H
            go_upto_region 19 with (fail)
            go_cut [86] (fun v86 wc => ∃ (kq : Nat) (x86_16 : Bool), v86 = .bool x86_16 ∧ Aside0 (massiflaw02_NumBits.j1 kq a0 x4_1 x6_1 x86_16 = some r) ∧ Aside0 (kq ≤ k1) ∧ Drawn0 w wc)
            case first =>
              have H := HC17.out
              clear HC17
              by_cases c18 : x3_1 = 0
              · rw [if_pos c18] at H
                have c18b0 : (x3_1 == 0) = true := beq_iff_eq.mpr c18
                have c18b1 : (x3_1 != 0) = false := bne_eq_false_iff_eq.mpr c18
                clear c18
                (first | rw [c18b0] | (simp only [i64_w, i32_w]; rw [c18b0]) | skip)
                replace H := Option.bind_eq_some_iff.mp H
                obtain ⟨t122, A190, H⟩ := H
                replace H : (if t122 = x6_1 then ((num_Log.f k1 a0).bind fun t123 => (if t123 = x4_1 then ((num_Trail.f k1 a0).bind fun t124 => (if t124 = x5_1 then ((num_Ones.f k1 (IntKind.u64.wrap (a0 - 1))).bind fun t125 => (massiflaw02_NumBits.j1 k1 a0 x4_1 x6_1 (t125 != (wrap64 ((wrap64 (x6_1 - 1)) + x5_1))))) else (massiflaw02_NumBits.j1 k1 a0 x4_1 x6_1 true))) else (massiflaw02_NumBits.j1 k1 a0 x4_1 x6_1 true))) else (massiflaw02_NumBits.j1 k1 a0 x4_1 x6_1 true)) = some r := H
                have A19 := Aside0.mk A190
                clear A190
                by_cases c20 : t122 = x6_1
                · rw [if_pos c20] at H
                  have c20b0 : (t122 == x6_1) = true := beq_iff_eq.mpr c20
                  have c20b1 : (t122 != x6_1) = false := bne_eq_false_iff_eq.mpr c20
                  clear c20
                  replace H := Option.bind_eq_some_iff.mp H
                  obtain ⟨t123, A210, H⟩ := H
                  replace H : (if t123 = x4_1 then ((num_Trail.f k1 a0).bind fun t124 => (if t124 = x5_1 then ((num_Ones.f k1 (IntKind.u64.wrap (a0 - 1))).bind fun t125 => (massiflaw02_NumBits.j1 k1 a0 x4_1 x6_1 (t125 != (wrap64 ((wrap64 (x6_1 - 1)) + x5_1))))) else (massiflaw02_NumBits.j1 k1 a0 x4_1 x6_1 true))) else (massiflaw02_NumBits.j1 k1 a0 x4_1 x6_1 true)) = some r := H
                  have A21 := Aside0.mk A210
                  clear A210
                  by_cases c22 : t123 = x4_1
                  · rw [if_pos c22] at H
                    have c22b0 : (t123 == x4_1) = true := beq_iff_eq.mpr c22
                    have c22b1 : (t123 != x4_1) = false := bne_eq_false_iff_eq.mpr c22
                    clear c22
                    replace H := Option.bind_eq_some_iff.mp H
                    obtain ⟨t124, A230, H⟩ := H
                    replace H : (if t124 = x5_1 then ((num_Ones.f k1 (IntKind.u64.wrap (a0 - 1))).bind fun t125 => (massiflaw02_NumBits.j1 k1 a0 x4_1 x6_1 (t125 != (wrap64 ((wrap64 (x6_1 - 1)) + x5_1))))) else (massiflaw02_NumBits.j1 k1 a0 x4_1 x6_1 true)) = some r := H
                    have A23 := Aside0.mk A230
                    clear A230
                    by_cases c24 : t124 = x5_1
                    · rw [if_pos c24] at H
                      have c24b0 : (t124 == x5_1) = true := beq_iff_eq.mpr c24
                      have c24b1 : (t124 != x5_1) = false := bne_eq_false_iff_eq.mpr c24
                      clear c24
                      replace H := Option.bind_eq_some_iff.mp H
                      obtain ⟨t125, A250, H⟩ := H
                      replace H : (massiflaw02_NumBits.j1 k1 a0 x4_1 x6_1 (t125 != (wrap64 ((wrap64 (x6_1 - 1)) + x5_1)))) = some r := H
                      have A25 := Aside0.mk A250
                      clear A250
                      have H' := Aside0.mk H
                      clear H
                      go_wp2_with (first | (go_at_call 15; (with_reducible refine (num_Ones.calls k1 a0 t122 _ A19.out).mono ?_); rintro e w' ⟨rfl, ⟨nd, rfl⟩⟩) | (go_at_call 17; (with_reducible refine (num_Log.calls k1 a0 t123 _ A21.out).mono ?_); rintro e w' ⟨rfl, ⟨nd, rfl⟩⟩) | (go_at_call 21; (with_reducible refine (num_Trail.calls k1 a0 t124 _ A23.out).mono ?_); rintro e w' ⟨rfl, ⟨nd, rfl⟩⟩) | (go_at_call 15; (with_reducible refine (num_Ones.calls k1 (IntKind.u64.wrap (a0 - 1)) t125 _ A25.out).mono ?_); rintro e w' ⟨rfl, ⟨nd, rfl⟩⟩))
                      go_meet
                      case rel => exact ⟨_, ((t125 != (wrap64 ((wrap64 (x6_1 - 1)) + x5_1)))), (by first | rfl | (simp; done) | (simp [*]; done)), H', ⟨by have := HK1.out; first | omega | exact Nat.le_refl _⟩, by repeat (first | exact Drawn0.refl _ | apply Drawn0.step)⟩
                    · rw [if_neg c24] at H
                      have c24b0 : (t124 == x5_1) = false := beq_eq_false_iff_ne.mpr c24
                      have c24b1 : (t124 != x5_1) = true := bne_iff_ne.mpr c24
                      have H' := Aside0.mk H
                      clear H
                      go_wp2_with (first | (go_at_call 15; (with_reducible refine (num_Ones.calls k1 a0 t122 _ A19.out).mono ?_); rintro e w' ⟨rfl, ⟨nd, rfl⟩⟩) | (go_at_call 17; (with_reducible refine (num_Log.calls k1 a0 t123 _ A21.out).mono ?_); rintro e w' ⟨rfl, ⟨nd, rfl⟩⟩) | (go_at_call 21; (with_reducible refine (num_Trail.calls k1 a0 t124 _ A23.out).mono ?_); rintro e w' ⟨rfl, ⟨nd, rfl⟩⟩))
                      go_meet
                      case rel => exact ⟨_, (true), (by first | rfl | (simp; done) | (simp [*]; done)), H', ⟨by have := HK1.out; first | omega | exact Nat.le_refl _⟩, by repeat (first | exact Drawn0.refl _ | apply Drawn0.step)⟩
                  · rw [if_neg c22] at H
                    have c22b0 : (t123 == x4_1) = false := beq_eq_false_iff_ne.mpr c22
                    have c22b1 : (t123 != x4_1) = true := bne_iff_ne.mpr c22
                    have H' := Aside0.mk H
                    clear H
                    go_wp2_with (first | (go_at_call 15; (with_reducible refine (num_Ones.calls k1 a0 t122 _ A19.out).mono ?_); rintro e w' ⟨rfl, ⟨nd, rfl⟩⟩) | (go_at_call 17; (with_reducible refine (num_Log.calls k1 a0 t123 _ A21.out).mono ?_); rintro e w' ⟨rfl, ⟨nd, rfl⟩⟩))
                    go_meet
                    case rel => exact ⟨_, (true), (by first | rfl | (simp; done) | (simp [*]; done)), H', ⟨by have := HK1.out; first | omega | exact Nat.le_refl _⟩, by repeat (first | exact Drawn0.refl _ | apply Drawn0.step)⟩
                · rw [if_neg c20] at H
                  have c20b0 : (t122 == x6_1) = false := beq_eq_false_iff_ne.mpr c20
                  have c20b1 : (t122 != x6_1) = true := bne_iff_ne.mpr c20
                  have H' := Aside0.mk H
                  clear H
                  go_wp2_with (first | (go_at_call 15; (with_reducible refine (num_Ones.calls k1 a0 t122 _ A19.out).mono ?_); rintro e w' ⟨rfl, ⟨nd, rfl⟩⟩))
                  go_meet
                  case rel => exact ⟨_, (true), (by first | rfl | (simp; done) | (simp [*]; done)), H', ⟨by have := HK1.out; first | omega | exact Nat.le_refl _⟩, by repeat (first | exact Drawn0.refl _ | apply Drawn0.step)⟩
              · rw [if_neg c18] at H
                have c18b0 : (x3_1 == 0) = false := beq_eq_false_iff_ne.mpr c18
                have c18b1 : (x3_1 != 0) = true := bne_iff_ne.mpr c18
                (first | rw [c18b0] | (simp only [i64_w, i32_w]; rw [c18b0]) | skip)
                have H' := Aside0.mk H
                clear H
                go_wp2
                go_meet
                case rel => exact ⟨_, (true), (by first | rfl | (simp; done) | (simp [*]; done)), H', ⟨by have := HK1.out; first | omega | exact Nat.le_refl _⟩, by repeat (first | exact Drawn0.refl _ | apply Drawn0.step)⟩
            case rest =>
              clear HC17
              try clear c1
              try clear c2
              try clear p2
              try clear c3
              try clear c4
              try clear c4b0
              try clear c4b1
              try clear c6
              try clear c6b0
              try clear c6b1
              try clear p6
              try clear c8
              try clear c8b0
              try clear c8b1
              try clear c10
              try clear c10b0
              try clear c10b1
              try clear c11
              try clear c12
              try clear c12b0
              try clear c14
              try clear c15
              try clear c15b0
              try clear c16
              try clear c16b0
              try clear c18
              try clear c18b0
              try clear c18b1
              try clear c20
              try clear c20b0
              try clear c20b1
              try clear c22
              try clear c22b0
              try clear c22b1
              try clear c24
              try clear c24b0
              try clear c24b1
              try clear p2
              obtain ⟨kq, x86_16, rfl, HA, HJ16, ⟨mc16, rfl⟩⟩ := hcut
              cases kq with
              | zero => exact absurd HA.out (by simp [massiflaw02_NumBits.j1])
              | succ kj16 =>
                have H := HA.out
                clear HA
                simp only [massiflaw02_NumBits.j1] at H
                by_cases c26 : x86_16 = true
                · subst c26
                  have H1 : (some false) = some r := by rw [if_pos rfl] at H; exact H
                  clear H
                  have H := H1
                  clear H1
                  obtain rfl := Option.some.inj H
                  go_wp2
                  go_ret
                  exact ⟨by first | rfl | (simp; done) | (simp [*]; done), by repeat (first | exact Drawn0.refl _ | apply Drawn0.step)⟩
                · replace c26 := Bool.eq_false_iff.mpr c26
                  subst c26
                  have H1 : ((num_Ceil.f kj16 a0).bind fun t126 => (if x6_1 = 1 then (some (t126 == x4_1)) else (some (t126 == (wrap64 (x4_1 + 1)))))) = some r := by rw [if_neg (show ¬ (false = true) by decide)] at H; exact H
                  clear H
                  have H := H1
                  clear H1
                  replace H := Option.bind_eq_some_iff.mp H
                  obtain ⟨t126, A270, H⟩ := H
                  replace H : (if x6_1 = 1 then (some (t126 == x4_1)) else (some (t126 == (wrap64 (x4_1 + 1))))) = some r := H
                  have A27 := Aside0.mk A270
                  clear A270
                  by_cases c28 : x6_1 = 1
                  · rw [if_pos c28] at H
                    have c28b0 : (x6_1 == 1) = true := beq_iff_eq.mpr c28
                    have c28b1 : (x6_1 != 1) = false := bne_eq_false_iff_eq.mpr c28
                    clear c28
                    obtain rfl := Option.some.inj H
                    go_wp2_with (first | ((with_reducible refine gate_callee (f := 19) rfl ?_); refine goesL_ (some 88) rfl rfl Try.func19 (by kernel_rfl) rfl #[.int .u64 a0] rfl (by (try simp only [List.map_toArray, List.map_cons, List.map_nil]); first | done | rfl | (simp only [List.length_drop, List.length_take]; rfl)) ?_; (with_reducible refine (num_Ceil.calls kj16 a0 t126 _ A27.out).mono ?_); rintro e w' ⟨rfl, ⟨nd, rfl⟩⟩; refine ⟨_, rfl, ?_⟩))
                    go_ret
                    exact ⟨by first | rfl | (simp; done) | (simp [*]; done), by repeat (first | exact Drawn0.refl _ | apply Drawn0.step)⟩
                  · rw [if_neg c28] at H
                    have c28b0 : (x6_1 == 1) = false := beq_eq_false_iff_ne.mpr c28
                    have c28b1 : (x6_1 != 1) = true := bne_iff_ne.mpr c28
                    obtain rfl := Option.some.inj H
                    go_wp2_with (first | ((with_reducible refine gate_callee (f := 19) rfl ?_); refine goesL_ (some 88) rfl rfl Try.func19 (by kernel_rfl) rfl #[.int .u64 a0] rfl (by (try simp only [List.map_toArray, List.map_cons, List.map_nil]); first | done | rfl | (simp only [List.length_drop, List.length_take]; rfl)) ?_; (with_reducible refine (num_Ceil.calls kj16 a0 t126 _ A27.out).mono ?_); rintro e w' ⟨rfl, ⟨nd, rfl⟩⟩; refine ⟨_, rfl, ?_⟩))
                    go_ret
                    exact ⟨by first | rfl | (simp; done) | (simp [*]; done), by repeat (first | exact Drawn0.refl _ | apply Drawn0.step)⟩
  · replace c3 := Bool.eq_false_iff.mpr c3
    subst c3
    have H1 : (some false) = some r := by rw [if_neg (show ¬ (false = true) by decide)] at H; exact H
    clear H
    have H := H1
    clear H1
    obtain rfl := Option.some.inj H
    go_enter Try.func4, Try.ntmps4
    go_wp2_with (first | ((with_reducible refine gate_callee (f := 10) rfl ?_); refine goesL_ (some 11) rfl rfl Try.func10 (by kernel_rfl) rfl #[] rfl (by (try simp only [List.map_toArray, List.map_cons, List.map_nil]); first | done | rfl | (simp only [List.length_drop, List.length_take]; rfl)) ?_; (with_reducible refine (massiflaw02_alive.calls k  false _ A2.out).mono ?_); rintro e w' ⟨rfl, ⟨nd, rfl⟩⟩; refine ⟨_, rfl, ?_⟩))
    go_ret
    exact ⟨by first | rfl | (simp; done) | (simp [*]; done), by repeat (first | exact Drawn0.refl _ | apply Drawn0.step)⟩

/-- THE ONE PURE STATEMENT of massiflaw02_NumBits: yours. -/
def massiflaw02_NumBits.Pure : Prop := ∀ (a0 : Int), (Lit.int .u64 a0).wf = true → ∃ k, massiflaw02_NumBits.f k a0 = some true
theorem massiflaw02_NumBits.walk (P : massiflaw02_NumBits.Pure) (a0 : Int) (w : World) (w0 : (Lit.int .u64 a0).wf = true) :
    Calls Try.prog 4 #[.int .u64 a0] w fun e w' => e = .returned (.bool true) ∧ Below w.heap.size w w' := by
  obtain ⟨k, h⟩ := P a0 w0
  refine (massiflaw02_NumBits.calls k a0 true w h).mono ?_
  rintro e w' ⟨rfl, hd⟩
  exact ⟨rfl, hd.below⟩

end Go.Proofs.Ytbfmdcccnneanaa.PNumBits
