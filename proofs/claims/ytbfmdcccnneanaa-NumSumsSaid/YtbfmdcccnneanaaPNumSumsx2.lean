-- PRINTED BY print.sh 35421559b90ae4d0a3588c463048766b98c2df88dd9212a6774a882060cdf62d: not written by this session
import Derived.Test.YtbfmdcccnneanaaPNumSumsx0
import Derived.Test.YtbfmdcccnneanaaPNumSumsx1
namespace Go.Proofs.Ytbfmdcccnneanaa.PNumSums
open Go.RowKit Go.Proofs.YtbfmdcccnneanaaW.PrintWords Go.Proofs.YtbfmdcccnneanaaW.PrintLast Go.Proofs.YtbfmdcccnneanaaW.PrintMore
attribute [local go_sem] max2_int min2_int max_two min_two max_three min_three max_four min_four   -- for this text's walks alone
set_option linter.unusedVariables false
set_option linter.unusedSimpArgs false

/-! ### massiflaw02_NumSums: function 5 -/
mutual
def massiflaw02_NumSums.j0 : Nat → Int → Int → Int → Int → Bool → Bool → Option (Bool)
  | 0, _, _, _, _, _, _ => none
  | k + 1, x0, x1, x2, x7, x8, x38 => if x38 = true then (some false) else (if x8 = true then (if x7 < x0 then (massiflaw02_NumSums.j1 k x2 true) else (if x7 < x1 then (massiflaw02_NumSums.j1 k x2 true) else (if (IntKind.u64.wrap (x7 - x0)) = x1 then (massiflaw02_NumSums.j1 k x2 false) else (massiflaw02_NumSums.j1 k x2 true)))) else (if x7 = 0 then (massiflaw02_NumSums.j1 k x2 (decide ((IntKind.u64.wrap (x0 + x1)) ≥ x0))) else (massiflaw02_NumSums.j1 k x2 true)))
def massiflaw02_NumSums.j1 : Nat → Int → Bool → Option (Bool)
  | 0, _, _ => none
  | k + 1, x2, x71 => if x71 = true then (some false) else ((num_Pow.f x2).bind fun bt120 => (if bt120.2 = true then (if x2 < 0 then (massiflaw02_NumSums.j2 k x2 bt120.1 true) else (if x2 > 63 then (massiflaw02_NumSums.j2 k x2 bt120.1 true) else ((num_Ones.f k bt120.1).bind fun t122 => (if t122 = 1 then ((num_Log.f k bt120.1).bind fun t123 => (if t123 = x2 then ((num_Trail.f k bt120.1).bind fun t124 => (if t124 = x2 then ((num_Ceil.f k bt120.1).bind fun t125 => (massiflaw02_NumSums.j2 k x2 bt120.1 (t125 != x2))) else (massiflaw02_NumSums.j2 k x2 bt120.1 true))) else (massiflaw02_NumSums.j2 k x2 bt120.1 true))) else (massiflaw02_NumSums.j2 k x2 bt120.1 true))))) else (if bt120.1 = 0 then (if x2 < 0 then (some true) else (some (decide (x2 > 63)))) else (some false))))
def massiflaw02_NumSums.j2 : Nat → Int → Int → Bool → Option (Bool)
  | 0, _, _, _ => none
  | k + 1, x2, x11, x117 => if x117 = true then (some false) else ((num_Add.f x11 x11).bind fun bt126 => ((num_Pow.f (wrap64 (x2 + 1))).bind fun bt128 => (if (bt126.2 == bt128.2) = true then (some (bt126.1 == bt128.1)) else (some false))))
end
def massiflaw02_NumSums.f (k : Nat) (a0 : Int) (a1 : Int) (a2 : Int) : Option (Bool) := (massiflaw02_alive.f k).bind fun t115 => (if t115 = true then ((num_Add.f a0 a1).bind fun bt116 => ((num_Add.f a1 a0).bind fun bt118 => (if bt116.1 = bt118.1 then (massiflaw02_NumSums.j0 k a0 a1 a2 bt116.1 bt116.2 (bt116.2 != bt118.2)) else (massiflaw02_NumSums.j0 k a0 a1 a2 bt116.1 bt116.2 true)))) else (some false))
theorem massiflaw02_NumSums.mono_l : ∀ k, (∀ y0 y1 y2 y3 y4 y5, LeO (massiflaw02_NumSums.j0 k y0 y1 y2 y3 y4 y5) (massiflaw02_NumSums.j0 (k + 1) y0 y1 y2 y3 y4 y5)) ∧ (∀ y0 y1, LeO (massiflaw02_NumSums.j1 k y0 y1) (massiflaw02_NumSums.j1 (k + 1) y0 y1)) ∧ (∀ y0 y1 y2, LeO (massiflaw02_NumSums.j2 k y0 y1 y2) (massiflaw02_NumSums.j2 (k + 1) y0 y1 y2))
  | 0 => ⟨fun _ _ _ _ _ _ r h => by simp [massiflaw02_NumSums.j0] at h, fun _ _ r h => by simp [massiflaw02_NumSums.j1] at h, fun _ _ _ r h => by simp [massiflaw02_NumSums.j2] at h⟩
  | k + 1 => by
    obtain ⟨ih0, ih1, ih2⟩ := massiflaw02_NumSums.mono_l k
    refine ⟨?_, ?_, ?_⟩
    · intro y0 y1 y2 y3 y4 y5
      unfold massiflaw02_NumSums.j0
      repeat' first
      | (with_reducible exact ih0 _ _ _ _ _ _)
      | (with_reducible exact ih1 _ _)
      | (with_reducible exact ih2 _ _ _)
      | (with_reducible exact massiflaw02_alive.mono _)
      | (with_reducible exact num_Ceil.mono _ _)
      | (with_reducible exact num_Log.mono _ _)
      | (with_reducible exact num_Ones.mono _ _)
      | (with_reducible exact num_Trail.mono _ _)
      | (with_reducible exact LeO.refl _)
      | (with_reducible exact LeO.none _)
      | (with_reducible refine LeO.ite ?_ ?_)
      | (with_reducible refine LeO.bind ?_ (fun _ => ?_))
      | exact ih0 _ _ _ _ _ _
      | exact ih1 _ _
      | exact ih2 _ _ _
      | exact massiflaw02_alive.mono _
      | exact num_Ceil.mono _ _
      | exact num_Log.mono _ _
      | exact num_Ones.mono _ _
      | exact num_Trail.mono _ _
      | exact LeO.none _
      | refine LeO.ite ?_ ?_
      | refine LeO.bind ?_ (fun _ => ?_)
    · intro y0 y1
      unfold massiflaw02_NumSums.j1
      repeat' first
      | (with_reducible exact ih0 _ _ _ _ _ _)
      | (with_reducible exact ih1 _ _)
      | (with_reducible exact ih2 _ _ _)
      | (with_reducible exact massiflaw02_alive.mono _)
      | (with_reducible exact num_Ceil.mono _ _)
      | (with_reducible exact num_Log.mono _ _)
      | (with_reducible exact num_Ones.mono _ _)
      | (with_reducible exact num_Trail.mono _ _)
      | (with_reducible exact LeO.refl _)
      | (with_reducible exact LeO.none _)
      | (with_reducible refine LeO.ite ?_ ?_)
      | (with_reducible refine LeO.bind ?_ (fun _ => ?_))
      | exact ih0 _ _ _ _ _ _
      | exact ih1 _ _
      | exact ih2 _ _ _
      | exact massiflaw02_alive.mono _
      | exact num_Ceil.mono _ _
      | exact num_Log.mono _ _
      | exact num_Ones.mono _ _
      | exact num_Trail.mono _ _
      | exact LeO.none _
      | refine LeO.ite ?_ ?_
      | refine LeO.bind ?_ (fun _ => ?_)
    · intro y0 y1 y2
      unfold massiflaw02_NumSums.j2
      repeat' first
      | (with_reducible exact ih0 _ _ _ _ _ _)
      | (with_reducible exact ih1 _ _)
      | (with_reducible exact ih2 _ _ _)
      | (with_reducible exact massiflaw02_alive.mono _)
      | (with_reducible exact num_Ceil.mono _ _)
      | (with_reducible exact num_Log.mono _ _)
      | (with_reducible exact num_Ones.mono _ _)
      | (with_reducible exact num_Trail.mono _ _)
      | (with_reducible exact LeO.refl _)
      | (with_reducible exact LeO.none _)
      | (with_reducible refine LeO.ite ?_ ?_)
      | (with_reducible refine LeO.bind ?_ (fun _ => ?_))
      | exact ih0 _ _ _ _ _ _
      | exact ih1 _ _
      | exact ih2 _ _ _
      | exact massiflaw02_alive.mono _
      | exact num_Ceil.mono _ _
      | exact num_Log.mono _ _
      | exact num_Ones.mono _ _
      | exact num_Trail.mono _ _
      | exact LeO.none _
      | refine LeO.ite ?_ ?_
      | refine LeO.bind ?_ (fun _ => ?_)
theorem massiflaw02_NumSums.mono : ∀ a0 a1 a2 k, LeO (massiflaw02_NumSums.f k a0 a1 a2) (massiflaw02_NumSums.f (k + 1) a0 a1 a2) := by
  intro a0 a1 a2 k
  obtain ⟨ih0, ih1, ih2⟩ := massiflaw02_NumSums.mono_l k
  unfold massiflaw02_NumSums.f
  repeat' first
      | (with_reducible exact ih0 _ _ _ _ _ _)
      | (with_reducible exact ih1 _ _)
      | (with_reducible exact ih2 _ _ _)
      | (with_reducible exact massiflaw02_alive.mono _)
      | (with_reducible exact num_Ceil.mono _ _)
      | (with_reducible exact num_Log.mono _ _)
      | (with_reducible exact num_Ones.mono _ _)
      | (with_reducible exact num_Trail.mono _ _)
      | (with_reducible exact LeO.refl _)
      | (with_reducible exact LeO.none _)
      | (with_reducible refine LeO.ite ?_ ?_)
      | (with_reducible refine LeO.bind ?_ (fun _ => ?_))
      | exact ih0 _ _ _ _ _ _
      | exact ih1 _ _
      | exact ih2 _ _ _
      | exact massiflaw02_alive.mono _
      | exact num_Ceil.mono _ _
      | exact num_Log.mono _ _
      | exact num_Ones.mono _ _
      | exact num_Trail.mono _ _
      | exact LeO.none _
      | refine LeO.ite ?_ ?_
      | refine LeO.bind ?_ (fun _ => ?_)
set_option maxHeartbeats 8000000 in
set_option maxRecDepth 100000 in
theorem massiflaw02_NumSums.calls (k : Nat) (a0 : Int) (a1 : Int) (a2 : Int) (r : Bool) (w : World) (h : massiflaw02_NumSums.f k a0 a1 a2 = some r) :
    Calls Try.prog 5 #[.int .u64 a0, .int .u64 a1, .int .i64 a2] w fun e w' => e = .returned (.bool r) ∧ Drawn0 w w' := by
  have H : ((massiflaw02_alive.f k).bind fun t115 => (if t115 = true then ((num_Add.f a0 a1).bind fun bt116 => ((num_Add.f a1 a0).bind fun bt118 => (if bt116.1 = bt118.1 then (massiflaw02_NumSums.j0 k a0 a1 a2 bt116.1 bt116.2 (bt116.2 != bt118.2)) else (massiflaw02_NumSums.j0 k a0 a1 a2 bt116.1 bt116.2 true)))) else (some false))) = some r := h
  clear h
  replace H := Option.bind_eq_some_iff.mp H
  obtain ⟨t115, A40, H⟩ := H
  replace H : (if t115 = true then ((num_Add.f a0 a1).bind fun bt116 => ((num_Add.f a1 a0).bind fun bt118 => (if bt116.1 = bt118.1 then (massiflaw02_NumSums.j0 k a0 a1 a2 bt116.1 bt116.2 (bt116.2 != bt118.2)) else (massiflaw02_NumSums.j0 k a0 a1 a2 bt116.1 bt116.2 true)))) else (some false)) = some r := H
  have A4 := Aside0.mk A40
  clear A40
  by_cases c5 : t115 = true
  · subst c5
    have H1 : ((num_Add.f a0 a1).bind fun bt116 => ((num_Add.f a1 a0).bind fun bt118 => (if bt116.1 = bt118.1 then (massiflaw02_NumSums.j0 k a0 a1 a2 bt116.1 bt116.2 (bt116.2 != bt118.2)) else (massiflaw02_NumSums.j0 k a0 a1 a2 bt116.1 bt116.2 true)))) = some r := by rw [if_pos rfl] at H; exact H
    clear H
    have H := H1
    clear H1
    replace H := Option.bind_eq_some_iff.mp H
    obtain ⟨⟨t116, t117⟩, A60, H⟩ := H
    replace H : ((num_Add.f a1 a0).bind fun bt118 => (if t116 = bt118.1 then (massiflaw02_NumSums.j0 k a0 a1 a2 t116 t117 (t117 != bt118.2)) else (massiflaw02_NumSums.j0 k a0 a1 a2 t116 t117 true))) = some r := H
    have A6 := Aside0.mk A60
    clear A60
    replace H := Option.bind_eq_some_iff.mp H
    obtain ⟨⟨t118, t119⟩, A70, H⟩ := H
    replace H : (if t116 = t118 then (massiflaw02_NumSums.j0 k a0 a1 a2 t116 t117 (t117 != t119)) else (massiflaw02_NumSums.j0 k a0 a1 a2 t116 t117 true)) = some r := H
    have A7 := Aside0.mk A70
    clear A70
    have HC8 := Aside0.mk H
    clear H
    go_enter Try.func5, Try.ntmps5
    go_upto_region 5 with (first | ((with_reducible refine gate_callee (f := 10) rfl ?_); refine goesL_ (some 17) rfl rfl Try.func10 (by kernel_rfl) rfl #[] rfl (by (try simp only [List.map_toArray, List.map_cons, List.map_nil]); first | done | rfl | (simp only [List.length_drop, List.length_take]; rfl)) ?_; (with_reducible refine (massiflaw02_alive.calls k  true _ A4.out).mono ?_); rintro e w' ⟨rfl, ⟨nd, rfl⟩⟩; refine ⟨_, rfl, ?_⟩) | ((with_reducible refine gate_callee (f := 13) rfl ?_); refine goesL_ (some 22) rfl rfl Try.func13 (by kernel_rfl) rfl #[.int .u64 a0, .int .u64 a1] rfl (by (try simp only [List.map_toArray, List.map_cons, List.map_nil]); first | done | rfl | (simp only [List.length_drop, List.length_take]; rfl)) ?_; (with_reducible refine (num_Add.calls a0 a1 t116 t117 _ A6.out).mono ?_); rintro e w' ⟨rfl, ⟨nd, rfl⟩⟩; refine ⟨_, rfl, ?_⟩) | ((with_reducible refine gate_callee (f := 13) rfl ?_); refine goesL_ (some 28) rfl rfl Try.func13 (by kernel_rfl) rfl #[.int .u64 a1, .int .u64 a0] rfl (by (try simp only [List.map_toArray, List.map_cons, List.map_nil]); first | done | rfl | (simp only [List.length_drop, List.length_take]; rfl)) ?_; (with_reducible refine (num_Add.calls a1 a0 t118 t119 _ A7.out).mono ?_); rintro e w' ⟨rfl, ⟨nd, rfl⟩⟩; refine ⟨_, rfl, ?_⟩))
    (try simp only [Act.put, List.setIfInBounds_toArray, List.set_cons_zero, List.set_cons_succ])
    go_cut [38] (fun v38 wc => ∃ (kq : Nat) (x38_7 : Bool), v38 = .bool x38_7 ∧ Aside0 (massiflaw02_NumSums.j0 kq a0 a1 a2 t116 t117 x38_7 = some r) ∧ Aside0 (kq ≤ k) ∧ Drawn0 w wc)
    case first =>
      have H := HC8.out
      clear HC8
      by_cases c9 : t116 = t118
      · rw [if_pos c9] at H
        have c9b0 : (t116 == t118) = true := beq_iff_eq.mpr c9
        have c9b1 : (t116 != t118) = false := bne_eq_false_iff_eq.mpr c9
        clear c9
        (first | rw [c9b0] | (simp only [i64_w, i32_w]; rw [c9b0]) | skip)
        have H' := Aside0.mk H
        clear H
        go_wp2
        go_meet
        case rel => exact ⟨_, ((t117 != t119)), (by first | rfl | (simp; done) | (simp [*]; done)), H', ⟨by first | omega | exact Nat.le_refl _⟩, by repeat (first | exact Drawn0.refl _ | apply Drawn0.step)⟩
      · rw [if_neg c9] at H
        have c9b0 : (t116 == t118) = false := beq_eq_false_iff_ne.mpr c9
        have c9b1 : (t116 != t118) = true := bne_iff_ne.mpr c9
        (first | rw [c9b0] | (simp only [i64_w, i32_w]; rw [c9b0]) | skip)
        have H' := Aside0.mk H
        clear H
        go_wp2
        go_meet
        case rel => exact ⟨_, (true), (by first | rfl | (simp; done) | (simp [*]; done)), H', ⟨by first | omega | exact Nat.le_refl _⟩, by repeat (first | exact Drawn0.refl _ | apply Drawn0.step)⟩
    case rest =>
      clear HC8
      try clear c1
      try clear p2
      try clear c5
      try clear c9
      try clear c9b0
      try clear c9b1
      obtain ⟨kq, x38_7, rfl, HA, HJ7, ⟨mc7, rfl⟩⟩ := hcut
      cases kq with
      | zero => exact absurd HA.out (by simp [massiflaw02_NumSums.j0])
      | succ kj7 =>
        have H := HA.out
        clear HA
        simp only [massiflaw02_NumSums.j0] at H
        by_cases c10 : x38_7 = true
        · subst c10
          have H1 : (some false) = some r := by rw [if_pos rfl] at H; exact H
          clear H
          have H := H1
          clear H1
          obtain rfl := Option.some.inj H
          go_wp2
          go_ret
          exact ⟨by first | rfl | (simp; done) | (simp [*]; done), by repeat (first | exact Drawn0.refl _ | apply Drawn0.step)⟩
        · replace c10 := Bool.eq_false_iff.mpr c10
          subst c10
          have H1 : (if t117 = true then (if t116 < a0 then (massiflaw02_NumSums.j1 kj7 a2 true) else (if t116 < a1 then (massiflaw02_NumSums.j1 kj7 a2 true) else (if (IntKind.u64.wrap (t116 - a0)) = a1 then (massiflaw02_NumSums.j1 kj7 a2 false) else (massiflaw02_NumSums.j1 kj7 a2 true)))) else (if t116 = 0 then (massiflaw02_NumSums.j1 kj7 a2 (decide ((IntKind.u64.wrap (a0 + a1)) ≥ a0))) else (massiflaw02_NumSums.j1 kj7 a2 true))) = some r := by rw [if_neg (show ¬ (false = true) by decide)] at H; exact H
          clear H
          have H := H1
          clear H1
          have HC11 := Aside0.mk H
          clear H
          go_upto_region 7 with (fail)
          go_cut [71] (fun v71 wc => ∃ (kq : Nat) (x71_10 : Bool), v71 = .bool x71_10 ∧ Aside0 (massiflaw02_NumSums.j1 kq a2 x71_10 = some r) ∧ Aside0 (kq ≤ kj7) ∧ Drawn0 w wc)
          case first =>
            have H := HC11.out
            clear HC11
            by_cases c12 : t117 = true
            · subst c12
              have H1 : (if t116 < a0 then (massiflaw02_NumSums.j1 kj7 a2 true) else (if t116 < a1 then (massiflaw02_NumSums.j1 kj7 a2 true) else (if (IntKind.u64.wrap (t116 - a0)) = a1 then (massiflaw02_NumSums.j1 kj7 a2 false) else (massiflaw02_NumSums.j1 kj7 a2 true)))) = some r := by rw [if_pos rfl] at H; exact H
              clear H
              have H := H1
              clear H1
              by_cases c13 : t116 < a0
              · rw [if_pos c13] at H
                have c13b0 : decide (t116 < a0) = true := decide_eq_true c13
                clear c13
                (first | rw [c13b0] | (simp only [i64_w, i32_w]; rw [c13b0]) | skip)
                have H' := Aside0.mk H
                clear H
                go_wp2
                go_meet
                case rel => exact ⟨_, (true), (by first | rfl | (simp; done) | (simp [*]; done)), H', ⟨by have := HJ7.out; first | omega | exact Nat.le_refl _⟩, by repeat (first | exact Drawn0.refl _ | apply Drawn0.step)⟩
              · rw [if_neg c13] at H
                have c13b0 : decide (t116 < a0) = false := decide_eq_false c13
                clear c13
                (first | rw [c13b0] | (simp only [i64_w, i32_w]; rw [c13b0]) | skip)
                by_cases c14 : t116 < a1
                · rw [if_pos c14] at H
                  have c14b0 : decide (t116 < a1) = true := decide_eq_true c14
                  clear c14
                  have H' := Aside0.mk H
                  clear H
                  go_wp2
                  go_meet
                  case rel => exact ⟨_, (true), (by first | rfl | (simp; done) | (simp [*]; done)), H', ⟨by have := HJ7.out; first | omega | exact Nat.le_refl _⟩, by repeat (first | exact Drawn0.refl _ | apply Drawn0.step)⟩
                · rw [if_neg c14] at H
                  have c14b0 : decide (t116 < a1) = false := decide_eq_false c14
                  clear c14
                  by_cases c15 : (IntKind.u64.wrap (t116 - a0)) = a1
                  · rw [if_pos c15] at H
                    have c15b0 : ((IntKind.u64.wrap (t116 - a0)) == a1) = true := beq_iff_eq.mpr c15
                    have c15b1 : ((IntKind.u64.wrap (t116 - a0)) != a1) = false := bne_eq_false_iff_eq.mpr c15
                    clear c15
                    have H' := Aside0.mk H
                    clear H
                    go_wp2
                    go_meet
                    case rel => exact ⟨_, (false), (by first | rfl | (simp; done) | (simp [*]; done)), H', ⟨by have := HJ7.out; first | omega | exact Nat.le_refl _⟩, by repeat (first | exact Drawn0.refl _ | apply Drawn0.step)⟩
                  · rw [if_neg c15] at H
                    have c15b0 : ((IntKind.u64.wrap (t116 - a0)) == a1) = false := beq_eq_false_iff_ne.mpr c15
                    have c15b1 : ((IntKind.u64.wrap (t116 - a0)) != a1) = true := bne_iff_ne.mpr c15
                    have H' := Aside0.mk H
                    clear H
                    go_wp2
                    go_meet
                    case rel => exact ⟨_, (true), (by first | rfl | (simp; done) | (simp [*]; done)), H', ⟨by have := HJ7.out; first | omega | exact Nat.le_refl _⟩, by repeat (first | exact Drawn0.refl _ | apply Drawn0.step)⟩
            · replace c12 := Bool.eq_false_iff.mpr c12
              subst c12
              have H1 : (if t116 = 0 then (massiflaw02_NumSums.j1 kj7 a2 (decide ((IntKind.u64.wrap (a0 + a1)) ≥ a0))) else (massiflaw02_NumSums.j1 kj7 a2 true)) = some r := by rw [if_neg (show ¬ (false = true) by decide)] at H; exact H
              clear H
              have H := H1
              clear H1
              by_cases c16 : t116 = 0
              · rw [if_pos c16] at H
                have c16b0 : (t116 == 0) = true := beq_iff_eq.mpr c16
                have c16b1 : (t116 != 0) = false := bne_eq_false_iff_eq.mpr c16
                clear c16
                have H' := Aside0.mk H
                clear H
                go_wp2
                go_meet
                case rel => exact ⟨_, (decide ((IntKind.u64.wrap (a0 + a1)) ≥ a0)), (by first | rfl | (simp; done) | (simp [*]; done)), H', ⟨by have := HJ7.out; first | omega | exact Nat.le_refl _⟩, by repeat (first | exact Drawn0.refl _ | apply Drawn0.step)⟩
              · rw [if_neg c16] at H
                have c16b0 : (t116 == 0) = false := beq_eq_false_iff_ne.mpr c16
                have c16b1 : (t116 != 0) = true := bne_iff_ne.mpr c16
                have H' := Aside0.mk H
                clear H
                go_wp2
                go_meet
                case rel => exact ⟨_, (true), (by first | rfl | (simp; done) | (simp [*]; done)), H', ⟨by have := HJ7.out; first | omega | exact Nat.le_refl _⟩, by repeat (first | exact Drawn0.refl _ | apply Drawn0.step)⟩
          case rest =>
            clear HC11
            try clear c1
            try clear p2
            try clear c5
            try clear c7
            try clear c9
            try clear c9b0
            try clear c9b1
            try clear c10
            try clear c12
            try clear c13
            try clear c13b0
            try clear c14
            try clear c14b0
            try clear c15
            try clear c15b0
            try clear c15b1
            try clear c16
            try clear c16b0
            try clear c16b1
            try clear p2
            obtain ⟨kq, x71_10, rfl, HA, HJ10, ⟨mc10, rfl⟩⟩ := hcut
            cases kq with
            | zero => exact absurd HA.out (by simp [massiflaw02_NumSums.j1])
            | succ kj10 =>
              have H := HA.out
              clear HA
              simp only [massiflaw02_NumSums.j1] at H
              by_cases c17 : x71_10 = true
              · subst c17
                have H1 : (some false) = some r := by rw [if_pos rfl] at H; exact H
                clear H
                have H := H1
                clear H1
                obtain rfl := Option.some.inj H
                go_wp2
                go_ret
                exact ⟨by first | rfl | (simp; done) | (simp [*]; done), by repeat (first | exact Drawn0.refl _ | apply Drawn0.step)⟩
              · replace c17 := Bool.eq_false_iff.mpr c17
                subst c17
                have H1 : ((num_Pow.f a2).bind fun bt120 => (if bt120.2 = true then (if a2 < 0 then (massiflaw02_NumSums.j2 kj10 a2 bt120.1 true) else (if a2 > 63 then (massiflaw02_NumSums.j2 kj10 a2 bt120.1 true) else ((num_Ones.f kj10 bt120.1).bind fun t122 => (if t122 = 1 then ((num_Log.f kj10 bt120.1).bind fun t123 => (if t123 = a2 then ((num_Trail.f kj10 bt120.1).bind fun t124 => (if t124 = a2 then ((num_Ceil.f kj10 bt120.1).bind fun t125 => (massiflaw02_NumSums.j2 kj10 a2 bt120.1 (t125 != a2))) else (massiflaw02_NumSums.j2 kj10 a2 bt120.1 true))) else (massiflaw02_NumSums.j2 kj10 a2 bt120.1 true))) else (massiflaw02_NumSums.j2 kj10 a2 bt120.1 true))))) else (if bt120.1 = 0 then (if a2 < 0 then (some true) else (some (decide (a2 > 63)))) else (some false)))) = some r := by rw [if_neg (show ¬ (false = true) by decide)] at H; exact H
                clear H
                have H := H1
                clear H1
                replace H := Option.bind_eq_some_iff.mp H
                obtain ⟨⟨t120, t121⟩, A180, H⟩ := H
                replace H : (if t121 = true then (if a2 < 0 then (massiflaw02_NumSums.j2 kj10 a2 t120 true) else (if a2 > 63 then (massiflaw02_NumSums.j2 kj10 a2 t120 true) else ((num_Ones.f kj10 t120).bind fun t122 => (if t122 = 1 then ((num_Log.f kj10 t120).bind fun t123 => (if t123 = a2 then ((num_Trail.f kj10 t120).bind fun t124 => (if t124 = a2 then ((num_Ceil.f kj10 t120).bind fun t125 => (massiflaw02_NumSums.j2 kj10 a2 t120 (t125 != a2))) else (massiflaw02_NumSums.j2 kj10 a2 t120 true))) else (massiflaw02_NumSums.j2 kj10 a2 t120 true))) else (massiflaw02_NumSums.j2 kj10 a2 t120 true))))) else (if t120 = 0 then (if a2 < 0 then (some true) else (some (decide (a2 > 63)))) else (some false))) = some r := H
                have A18 := Aside0.mk A180
                clear A180
                by_cases c19 : t121 = true
                · subst c19
                  have H1 : (if a2 < 0 then (massiflaw02_NumSums.j2 kj10 a2 t120 true) else (if a2 > 63 then (massiflaw02_NumSums.j2 kj10 a2 t120 true) else ((num_Ones.f kj10 t120).bind fun t122 => (if t122 = 1 then ((num_Log.f kj10 t120).bind fun t123 => (if t123 = a2 then ((num_Trail.f kj10 t120).bind fun t124 => (if t124 = a2 then ((num_Ceil.f kj10 t120).bind fun t125 => (massiflaw02_NumSums.j2 kj10 a2 t120 (t125 != a2))) else (massiflaw02_NumSums.j2 kj10 a2 t120 true))) else (massiflaw02_NumSums.j2 kj10 a2 t120 true))) else (massiflaw02_NumSums.j2 kj10 a2 t120 true))))) = some r := by rw [if_pos rfl] at H; exact H
                  clear H
                  have H := H1
                  clear H1
                  have HC20 := Aside0.mk H
                  clear H
                  go_upto_region 12 with (first | ((with_reducible refine gate_callee (f := 11) rfl ?_); refine goesL_ (some 74) rfl rfl Try.func11 (by kernel_rfl) rfl #[.int .i64 a2] rfl (by (try simp only [List.map_toArray, List.map_cons, List.map_nil]); first | done | rfl | (simp only [List.length_drop, List.length_take]; rfl)) ?_; (with_reducible refine (num_Pow.calls a2 t120 true _ A18.out).mono ?_); rintro e w' ⟨rfl, ⟨nd, rfl⟩⟩; refine ⟨_, rfl, ?_⟩))
                  (try simp only [Act.put, List.setIfInBounds_toArray, List.set_cons_zero, List.set_cons_succ])
                  go_cut [117] (fun v117 wc => ∃ (kq : Nat) (x117_19 : Bool), v117 = .bool x117_19 ∧ Aside0 (massiflaw02_NumSums.j2 kq a2 t120 x117_19 = some r) ∧ Aside0 (kq ≤ kj10) ∧ Drawn0 w wc)
                  case first =>
                    have H := HC20.out
                    clear HC20
                    by_cases c21 : a2 < 0
                    · rw [if_pos c21] at H
                      have c21b0 : decide (a2 < 0) = true := decide_eq_true c21
                      clear c21
                      (first | rw [c21b0] | (simp only [i64_w, i32_w]; rw [c21b0]) | skip)
                      have H' := Aside0.mk H
                      clear H
                      go_wp2
                      go_meet
                      case rel => exact ⟨_, (true), (by first | rfl | (simp; done) | (simp [*]; done)), H', ⟨by have := HJ7.out; have := HJ10.out; first | omega | exact Nat.le_refl _⟩, by repeat (first | exact Drawn0.refl _ | apply Drawn0.step)⟩
                    · rw [if_neg c21] at H
                      have c21b0 : decide (a2 < 0) = false := decide_eq_false c21
                      clear c21
                      (first | rw [c21b0] | (simp only [i64_w, i32_w]; rw [c21b0]) | skip)
                      by_cases c22 : a2 > 63
                      · rw [if_pos c22] at H
                        have c22b0 : decide (63 < a2) = true := decide_eq_true c22
                        clear c22
                        have H' := Aside0.mk H
                        clear H
                        go_wp2
                        go_meet
                        case rel => exact ⟨_, (true), (by first | rfl | (simp; done) | (simp [*]; done)), H', ⟨by have := HJ7.out; have := HJ10.out; first | omega | exact Nat.le_refl _⟩, by repeat (first | exact Drawn0.refl _ | apply Drawn0.step)⟩
                      · rw [if_neg c22] at H
                        have c22b0 : decide (63 < a2) = false := decide_eq_false c22
                        clear c22
                        replace H := Option.bind_eq_some_iff.mp H
                        obtain ⟨t122, A230, H⟩ := H
                        replace H : (if t122 = 1 then ((num_Log.f kj10 t120).bind fun t123 => (if t123 = a2 then ((num_Trail.f kj10 t120).bind fun t124 => (if t124 = a2 then ((num_Ceil.f kj10 t120).bind fun t125 => (massiflaw02_NumSums.j2 kj10 a2 t120 (t125 != a2))) else (massiflaw02_NumSums.j2 kj10 a2 t120 true))) else (massiflaw02_NumSums.j2 kj10 a2 t120 true))) else (massiflaw02_NumSums.j2 kj10 a2 t120 true)) = some r := H
                        have A23 := Aside0.mk A230
                        clear A230
                        by_cases c24 : t122 = 1
                        · rw [if_pos c24] at H
                          have c24b0 : (t122 == 1) = true := beq_iff_eq.mpr c24
                          have c24b1 : (t122 != 1) = false := bne_eq_false_iff_eq.mpr c24
                          clear c24
                          replace H := Option.bind_eq_some_iff.mp H
                          obtain ⟨t123, A250, H⟩ := H
                          replace H : (if t123 = a2 then ((num_Trail.f kj10 t120).bind fun t124 => (if t124 = a2 then ((num_Ceil.f kj10 t120).bind fun t125 => (massiflaw02_NumSums.j2 kj10 a2 t120 (t125 != a2))) else (massiflaw02_NumSums.j2 kj10 a2 t120 true))) else (massiflaw02_NumSums.j2 kj10 a2 t120 true)) = some r := H
                          have A25 := Aside0.mk A250
                          clear A250
                          by_cases c26 : t123 = a2
                          · rw [if_pos c26] at H
                            have c26b0 : (t123 == a2) = true := beq_iff_eq.mpr c26
                            have c26b1 : (t123 != a2) = false := bne_eq_false_iff_eq.mpr c26
                            clear c26
                            replace H := Option.bind_eq_some_iff.mp H
                            obtain ⟨t124, A270, H⟩ := H
                            replace H : (if t124 = a2 then ((num_Ceil.f kj10 t120).bind fun t125 => (massiflaw02_NumSums.j2 kj10 a2 t120 (t125 != a2))) else (massiflaw02_NumSums.j2 kj10 a2 t120 true)) = some r := H
                            have A27 := Aside0.mk A270
                            clear A270
                            by_cases c28 : t124 = a2
                            · rw [if_pos c28] at H
                              have c28b0 : (t124 == a2) = true := beq_iff_eq.mpr c28
                              have c28b1 : (t124 != a2) = false := bne_eq_false_iff_eq.mpr c28
                              clear c28
                              replace H := Option.bind_eq_some_iff.mp H
                              obtain ⟨t125, A290, H⟩ := H
                              replace H : (massiflaw02_NumSums.j2 kj10 a2 t120 (t125 != a2)) = some r := H
                              have A29 := Aside0.mk A290
                              clear A290
                              have H' := Aside0.mk H
                              clear H
                              go_wp2_with (first | (go_at_call 15; (with_reducible refine (num_Ones.calls kj10 t120 t122 _ A23.out).mono ?_); rintro e w' ⟨rfl, ⟨nd, rfl⟩⟩) | (go_at_call 17; (with_reducible refine (num_Log.calls kj10 t120 t123 _ A25.out).mono ?_); rintro e w' ⟨rfl, ⟨nd, rfl⟩⟩) | (go_at_call 21; (with_reducible refine (num_Trail.calls kj10 t120 t124 _ A27.out).mono ?_); rintro e w' ⟨rfl, ⟨nd, rfl⟩⟩) | (go_at_call 19; (with_reducible refine (num_Ceil.calls kj10 t120 t125 _ A29.out).mono ?_); rintro e w' ⟨rfl, ⟨nd, rfl⟩⟩))
                              go_meet
                              case rel => exact ⟨_, ((t125 != a2)), (by first | rfl | (simp; done) | (simp [*]; done)), H', ⟨by have := HJ7.out; have := HJ10.out; first | omega | exact Nat.le_refl _⟩, by repeat (first | exact Drawn0.refl _ | apply Drawn0.step)⟩
                            · rw [if_neg c28] at H
                              have c28b0 : (t124 == a2) = false := beq_eq_false_iff_ne.mpr c28
                              have c28b1 : (t124 != a2) = true := bne_iff_ne.mpr c28
                              have H' := Aside0.mk H
                              clear H
                              go_wp2_with (first | (go_at_call 15; (with_reducible refine (num_Ones.calls kj10 t120 t122 _ A23.out).mono ?_); rintro e w' ⟨rfl, ⟨nd, rfl⟩⟩) | (go_at_call 17; (with_reducible refine (num_Log.calls kj10 t120 t123 _ A25.out).mono ?_); rintro e w' ⟨rfl, ⟨nd, rfl⟩⟩) | (go_at_call 21; (with_reducible refine (num_Trail.calls kj10 t120 t124 _ A27.out).mono ?_); rintro e w' ⟨rfl, ⟨nd, rfl⟩⟩))
                              go_meet
                              case rel => exact ⟨_, (true), (by first | rfl | (simp; done) | (simp [*]; done)), H', ⟨by have := HJ7.out; have := HJ10.out; first | omega | exact Nat.le_refl _⟩, by repeat (first | exact Drawn0.refl _ | apply Drawn0.step)⟩
                          · rw [if_neg c26] at H
                            have c26b0 : (t123 == a2) = false := beq_eq_false_iff_ne.mpr c26
                            have c26b1 : (t123 != a2) = true := bne_iff_ne.mpr c26
                            have H' := Aside0.mk H
                            clear H
                            go_wp2_with (first | (go_at_call 15; (with_reducible refine (num_Ones.calls kj10 t120 t122 _ A23.out).mono ?_); rintro e w' ⟨rfl, ⟨nd, rfl⟩⟩) | (go_at_call 17; (with_reducible refine (num_Log.calls kj10 t120 t123 _ A25.out).mono ?_); rintro e w' ⟨rfl, ⟨nd, rfl⟩⟩))
                            go_meet
                            case rel => exact ⟨_, (true), (by first | rfl | (simp; done) | (simp [*]; done)), H', ⟨by have := HJ7.out; have := HJ10.out; first | omega | exact Nat.le_refl _⟩, by repeat (first | exact Drawn0.refl _ | apply Drawn0.step)⟩
                        · rw [if_neg c24] at H
                          have c24b0 : (t122 == 1) = false := beq_eq_false_iff_ne.mpr c24
                          have c24b1 : (t122 != 1) = true := bne_iff_ne.mpr c24
                          have H' := Aside0.mk H
                          clear H
                          go_wp2_with (first | (go_at_call 15; (with_reducible refine (num_Ones.calls kj10 t120 t122 _ A23.out).mono ?_); rintro e w' ⟨rfl, ⟨nd, rfl⟩⟩))
                          go_meet
                          case rel => exact ⟨_, (true), (by first | rfl | (simp; done) | (simp [*]; done)), H', ⟨by have := HJ7.out; have := HJ10.out; first | omega | exact Nat.le_refl _⟩, by repeat (first | exact Drawn0.refl _ | apply Drawn0.step)⟩
                  case rest =>
                    clear HC20
                    try clear c1
                    try clear c2
                    try clear p2
                    try clear c5
                    try clear c7
                    try clear c9
                    try clear c9b0
                    try clear c9b1
                    try clear c10
                    try clear c11
                    try clear c12
                    try clear c13
                    try clear c13b0
                    try clear c14
                    try clear c14b0
                    try clear c15
                    try clear c15b0
                    try clear c15b1
                    try clear c16
                    try clear c16b0
                    try clear c16b1
                    try clear c17
                    try clear c19
                    try clear c21
                    try clear c21b0
                    try clear c22
                    try clear c22b0
                    try clear c24
                    try clear c24b0
                    try clear c24b1
                    try clear c26
                    try clear c26b0
                    try clear c26b1
                    try clear c28
                    try clear c28b0
                    try clear c28b1
                    try clear p2
                    obtain ⟨kq, x117_19, rfl, HA, HJ19, ⟨mc19, rfl⟩⟩ := hcut
                    cases kq with
                    | zero => exact absurd HA.out (by simp [massiflaw02_NumSums.j2])
                    | succ kj19 =>
                      have H := HA.out
                      clear HA
                      simp only [massiflaw02_NumSums.j2] at H
                      by_cases c30 : x117_19 = true
                      · subst c30
                        have H1 : (some false) = some r := by rw [if_pos rfl] at H; exact H
                        clear H
                        have H := H1
                        clear H1
                        obtain rfl := Option.some.inj H
                        go_wp2
                        go_ret
                        exact ⟨by first | rfl | (simp; done) | (simp [*]; done), by repeat (first | exact Drawn0.refl _ | apply Drawn0.step)⟩
                      · replace c30 := Bool.eq_false_iff.mpr c30
                        subst c30
                        have H1 : ((num_Add.f t120 t120).bind fun bt126 => ((num_Pow.f (wrap64 (a2 + 1))).bind fun bt128 => (if (bt126.2 == bt128.2) = true then (some (bt126.1 == bt128.1)) else (some false)))) = some r := by rw [if_neg (show ¬ (false = true) by decide)] at H; exact H
                        clear H
                        have H := H1
                        clear H1
                        replace H := Option.bind_eq_some_iff.mp H
                        obtain ⟨⟨t126, t127⟩, A310, H⟩ := H
                        replace H : ((num_Pow.f (wrap64 (a2 + 1))).bind fun bt128 => (if (t127 == bt128.2) = true then (some (t126 == bt128.1)) else (some false))) = some r := H
                        have A31 := Aside0.mk A310
                        clear A310
                        replace H := Option.bind_eq_some_iff.mp H
                        obtain ⟨⟨t128, t129⟩, A320, H⟩ := H
                        replace H : (if (t127 == t129) = true then (some (t126 == t128)) else (some false)) = some r := H
                        have A32 := Aside0.mk A320
                        clear A320
                        by_cases c33 : (t127 == t129) = true
                        · rw [if_pos c33] at H
                          have c33b0 : (t127 == t129) = true := c33
                          (try (have c33b1 : decide (t127 = t129) = true := by simpa using c33))
                          (try (have c33b2 : (t127 == t129) = true := by simpa using c33))
                          clear c33
                          obtain rfl := Option.some.inj H
                          go_wp2_with (first | ((with_reducible refine gate_callee (f := 13) rfl ?_); refine goesL_ (some 121) rfl rfl Try.func13 (by kernel_rfl) rfl #[.int .u64 t120, .int .u64 t120] rfl (by (try simp only [List.map_toArray, List.map_cons, List.map_nil]); first | done | rfl | (simp only [List.length_drop, List.length_take]; rfl)) ?_; (with_reducible refine (num_Add.calls t120 t120 t126 t127 _ A31.out).mono ?_); rintro e w' ⟨rfl, ⟨nd, rfl⟩⟩; refine ⟨_, rfl, ?_⟩) | ((with_reducible refine gate_callee (f := 11) rfl ?_); refine goesL_ (some 127) rfl rfl Try.func11 (by kernel_rfl) rfl #[.int .i64 (wrap64 (a2 + 1))] rfl (by (try simp only [List.map_toArray, List.map_cons, List.map_nil]); first | done | rfl | (simp only [List.length_drop, List.length_take]; rfl)) ?_; (with_reducible refine (num_Pow.calls (wrap64 (a2 + 1)) t128 t129 _ A32.out).mono ?_); rintro e w' ⟨rfl, ⟨nd, rfl⟩⟩; refine ⟨_, rfl, ?_⟩))
                          go_ret
                          exact ⟨by first | rfl | (simp; done) | (simp [*]; done), by repeat (first | exact Drawn0.refl _ | apply Drawn0.step)⟩
                        · rw [if_neg c33] at H
                          have c33b0 : (t127 == t129) = false := by simpa using c33
                          (try (have c33b1 : decide (t127 = t129) = false := by simpa using c33))
                          (try (have c33b2 : (t127 == t129) = false := by simpa using c33))
                          (try (have c33b3 : ¬ (t127 = t129) := by simpa using c33))
                          clear c33
                          obtain rfl := Option.some.inj H
                          go_wp2_with (first | ((with_reducible refine gate_callee (f := 13) rfl ?_); refine goesL_ (some 121) rfl rfl Try.func13 (by kernel_rfl) rfl #[.int .u64 t120, .int .u64 t120] rfl (by (try simp only [List.map_toArray, List.map_cons, List.map_nil]); first | done | rfl | (simp only [List.length_drop, List.length_take]; rfl)) ?_; (with_reducible refine (num_Add.calls t120 t120 t126 t127 _ A31.out).mono ?_); rintro e w' ⟨rfl, ⟨nd, rfl⟩⟩; refine ⟨_, rfl, ?_⟩) | ((with_reducible refine gate_callee (f := 11) rfl ?_); refine goesL_ (some 127) rfl rfl Try.func11 (by kernel_rfl) rfl #[.int .i64 (wrap64 (a2 + 1))] rfl (by (try simp only [List.map_toArray, List.map_cons, List.map_nil]); first | done | rfl | (simp only [List.length_drop, List.length_take]; rfl)) ?_; (with_reducible refine (num_Pow.calls (wrap64 (a2 + 1)) t128 t129 _ A32.out).mono ?_); rintro e w' ⟨rfl, ⟨nd, rfl⟩⟩; refine ⟨_, rfl, ?_⟩))
                          go_ret
                          exact ⟨by first | rfl | (simp; done) | (simp [*]; done), by repeat (first | exact Drawn0.refl _ | apply Drawn0.step)⟩
                · replace c19 := Bool.eq_false_iff.mpr c19
                  subst c19
                  have H1 : (if t120 = 0 then (if a2 < 0 then (some true) else (some (decide (a2 > 63)))) else (some false)) = some r := by rw [if_neg (show ¬ (false = true) by decide)] at H; exact H
                  clear H
                  have H := H1
                  clear H1
                  by_cases c34 : t120 = 0
                  · rw [if_pos c34] at H
                    have c34b0 : (t120 == 0) = true := beq_iff_eq.mpr c34
                    have c34b1 : (t120 != 0) = false := bne_eq_false_iff_eq.mpr c34
                    clear c34
                    by_cases c35 : a2 < 0
                    · rw [if_pos c35] at H
                      have c35b0 : decide (a2 < 0) = true := decide_eq_true c35
                      clear c35
                      obtain rfl := Option.some.inj H
                      go_wp2_with (first | ((with_reducible refine gate_callee (f := 11) rfl ?_); refine goesL_ (some 74) rfl rfl Try.func11 (by kernel_rfl) rfl #[.int .i64 a2] rfl (by (try simp only [List.map_toArray, List.map_cons, List.map_nil]); first | done | rfl | (simp only [List.length_drop, List.length_take]; rfl)) ?_; (with_reducible refine (num_Pow.calls a2 t120 false _ A18.out).mono ?_); rintro e w' ⟨rfl, ⟨nd, rfl⟩⟩; refine ⟨_, rfl, ?_⟩))
                      go_ret
                      exact ⟨by first | rfl | (simp; done) | (simp [*]; done), by repeat (first | exact Drawn0.refl _ | apply Drawn0.step)⟩
                    · rw [if_neg c35] at H
                      have c35b0 : decide (a2 < 0) = false := decide_eq_false c35
                      clear c35
                      obtain rfl := Option.some.inj H
                      go_wp2_with (first | ((with_reducible refine gate_callee (f := 11) rfl ?_); refine goesL_ (some 74) rfl rfl Try.func11 (by kernel_rfl) rfl #[.int .i64 a2] rfl (by (try simp only [List.map_toArray, List.map_cons, List.map_nil]); first | done | rfl | (simp only [List.length_drop, List.length_take]; rfl)) ?_; (with_reducible refine (num_Pow.calls a2 t120 false _ A18.out).mono ?_); rintro e w' ⟨rfl, ⟨nd, rfl⟩⟩; refine ⟨_, rfl, ?_⟩))
                      go_ret
                      exact ⟨by first | rfl | (simp; done) | (simp [*]; done), by repeat (first | exact Drawn0.refl _ | apply Drawn0.step)⟩
                  · rw [if_neg c34] at H
                    have c34b0 : (t120 == 0) = false := beq_eq_false_iff_ne.mpr c34
                    have c34b1 : (t120 != 0) = true := bne_iff_ne.mpr c34
                    obtain rfl := Option.some.inj H
                    go_wp2_with (first | ((with_reducible refine gate_callee (f := 11) rfl ?_); refine goesL_ (some 74) rfl rfl Try.func11 (by kernel_rfl) rfl #[.int .i64 a2] rfl (by (try simp only [List.map_toArray, List.map_cons, List.map_nil]); first | done | rfl | (simp only [List.length_drop, List.length_take]; rfl)) ?_; (with_reducible refine (num_Pow.calls a2 t120 false _ A18.out).mono ?_); rintro e w' ⟨rfl, ⟨nd, rfl⟩⟩; refine ⟨_, rfl, ?_⟩))
                    go_ret
                    exact ⟨by first | rfl | (simp; done) | (simp [*]; done), by repeat (first | exact Drawn0.refl _ | apply Drawn0.step)⟩
  · replace c5 := Bool.eq_false_iff.mpr c5
    subst c5
    have H1 : (some false) = some r := by rw [if_neg (show ¬ (false = true) by decide)] at H; exact H
    clear H
    have H := H1
    clear H1
    obtain rfl := Option.some.inj H
    go_enter Try.func5, Try.ntmps5
    go_wp2_with (first | ((with_reducible refine gate_callee (f := 10) rfl ?_); refine goesL_ (some 17) rfl rfl Try.func10 (by kernel_rfl) rfl #[] rfl (by (try simp only [List.map_toArray, List.map_cons, List.map_nil]); first | done | rfl | (simp only [List.length_drop, List.length_take]; rfl)) ?_; (with_reducible refine (massiflaw02_alive.calls k  false _ A4.out).mono ?_); rintro e w' ⟨rfl, ⟨nd, rfl⟩⟩; refine ⟨_, rfl, ?_⟩))
    go_ret
    exact ⟨by first | rfl | (simp; done) | (simp [*]; done), by repeat (first | exact Drawn0.refl _ | apply Drawn0.step)⟩

/-- THE ONE PURE STATEMENT of massiflaw02_NumSums: yours. -/
def massiflaw02_NumSums.Pure : Prop := ∀ (a0 : Int) (a1 : Int) (a2 : Int), (Lit.int .u64 a0).wf = true → (Lit.int .u64 a1).wf = true → (Lit.int .i64 a2).wf = true → ∃ k, massiflaw02_NumSums.f k a0 a1 a2 = some true
theorem massiflaw02_NumSums.walk (P : massiflaw02_NumSums.Pure) (a0 : Int) (a1 : Int) (a2 : Int) (w : World) (w0 : (Lit.int .u64 a0).wf = true) (w1 : (Lit.int .u64 a1).wf = true) (w2 : (Lit.int .i64 a2).wf = true) :
    Calls Try.prog 5 #[.int .u64 a0, .int .u64 a1, .int .i64 a2] w fun e w' => e = .returned (.bool true) ∧ Below w.heap.size w w' := by
  obtain ⟨k, h⟩ := P a0 a1 a2 w0 w1 w2
  refine (massiflaw02_NumSums.calls k a0 a1 a2 true w h).mono ?_
  rintro e w' ⟨rfl, hd⟩
  exact ⟨rfl, hd.below⟩

end Go.Proofs.Ytbfmdcccnneanaa.PNumSums
