/- Written by a program of this session over the translation: functions, their walks, rows. No condition beyond those that each theorem names. -/
import Derived.Test.YtkefjoljokfieaaPCoverFreshx0
namespace Go.Proofs.Ytkefjoljokfieaa.PCoverFresh
open Go.RowKit Go.Proofs.YtkefjoljokfieaaW.PrintWords Go.Proofs.YtkefjoljokfieaaW.PrintLast Go.Proofs.YtkefjoljokfieaaW.PrintMore
attribute [local go_sem] max2_int min2_int max_two min_two max_three min_three max_four min_four   -- for this text's walks alone
set_option linter.unusedVariables false
set_option linter.unusedSimpArgs false

/-! ### massiflaw04_rising: function 15 -/
mutual
def massiflaw04_rising.l0 : Nat → Int → List Int → List Int → Int → Option (List Int)
  | 0, _, _, _, _ => none
  | k + 1, x0, x1, x5, x6 => if x6 < (x1.length : Int) then (massiflaw04_rising.j1 k x0 x1 x5 x6 (decide (x6 < 60))) else (massiflaw04_rising.j1 k x0 x1 x5 x6 false)
def massiflaw04_rising.j1 : Nat → Int → List Int → List Int → Int → Bool → Option (List Int)
  | 0, _, _, _, _, _ => none
  | k + 1, x0, x1, x5, x6, x17 => if x17 = true then (if 0 ≤ x6 then (if x6 < (x1.length : Int) then (if x0 = 0 then (none) else (massiflaw04_rising.l1 k x0 x1 x5 x6 (Int.tmod (rd x1 x6) x0) 0)) else (none)) else (none)) else (some x5)
def massiflaw04_rising.l1 : Nat → Int → List Int → List Int → Int → Int → Int → Option (List Int)
  | 0, _, _, _, _, _, _ => none
  | k + 1, x0, x1, x5, x6, x7, x8 => if x8 < (x5.length : Int) then (if 0 ≤ x8 then (if (rd x5 x8) < x7 then (massiflaw04_rising.l1 k x0 x1 x5 x6 x7 (wrap64 (x8 + 1))) else (if (rd x5 x8) = x7 then (massiflaw04_rising.l0 k x0 x1 x5 (wrap64 (x6 + 1))) else (if x8 ≤ (x5.length : Int) then ((some (x5.take (x8 : Int).toNat : List Int)).bind fun y176 => (if ([] : List Int).length + y176.length < 17592186044416 then ((some (([] : List Int) ++ y176 : List Int)).bind fun y180 => (if y180.length < 17592186044416 then ((some (y180 ++ [x7] : List Int)).bind fun y183 => ((some (x5.drop (x8 : Int).toNat : List Int)).bind fun y186 => (if y183.length + y186.length < 17592186044416 then (massiflaw04_rising.l0 k x0 x1 (y183 ++ y186) (wrap64 (x6 + 1))) else (none)))) else (none))) else (none))) else (none)))) else (none)) else (if 0 ≤ x8 then (if x8 ≤ (x5.length : Int) then ((some (x5.take (x8 : Int).toNat : List Int)).bind fun y193 => (if ([] : List Int).length + y193.length < 17592186044416 then ((some (([] : List Int) ++ y193 : List Int)).bind fun y197 => (if y197.length < 17592186044416 then ((some (y197 ++ [x7] : List Int)).bind fun y200 => ((some (x5.drop (x8 : Int).toNat : List Int)).bind fun y203 => (if y200.length + y203.length < 17592186044416 then (massiflaw04_rising.l0 k x0 x1 (y200 ++ y203) (wrap64 (x6 + 1))) else (none)))) else (none))) else (none))) else (none)) else (none))
end
def massiflaw04_rising.f (k : Nat) (a0 : Int) (l1 : List Int) : Option (List Int) := massiflaw04_rising.l0 k a0 l1 ([] : List Int) 0
theorem massiflaw04_rising.mono_l : ∀ k, (∀ y0 y1 y2 y3, LeO (massiflaw04_rising.l0 k y0 y1 y2 y3) (massiflaw04_rising.l0 (k + 1) y0 y1 y2 y3)) ∧ (∀ y0 y1 y2 y3 y4, LeO (massiflaw04_rising.j1 k y0 y1 y2 y3 y4) (massiflaw04_rising.j1 (k + 1) y0 y1 y2 y3 y4)) ∧ (∀ y0 y1 y2 y3 y4 y5, LeO (massiflaw04_rising.l1 k y0 y1 y2 y3 y4 y5) (massiflaw04_rising.l1 (k + 1) y0 y1 y2 y3 y4 y5))
  | 0 => ⟨fun _ _ _ _ r h => by simp [massiflaw04_rising.l0] at h, fun _ _ _ _ _ r h => by simp [massiflaw04_rising.j1] at h, fun _ _ _ _ _ _ r h => by simp [massiflaw04_rising.l1] at h⟩
  | k + 1 => by
    obtain ⟨ih0, ih1, ih2⟩ := massiflaw04_rising.mono_l k
    refine ⟨?_, ?_, ?_⟩
    · intro y0 y1 y2 y3
      unfold massiflaw04_rising.l0
      repeat' first
      | (with_reducible exact ih0 _ _ _ _)
      | (with_reducible exact ih1 _ _ _ _ _)
      | (with_reducible exact ih2 _ _ _ _ _ _)
      | (with_reducible exact LeO.refl _)
      | (with_reducible exact LeO.none _)
      | (with_reducible refine LeO.ite ?_ ?_)
      | (with_reducible refine LeO.bind ?_ (fun _ => ?_))
      | exact ih0 _ _ _ _
      | exact ih1 _ _ _ _ _
      | exact ih2 _ _ _ _ _ _
      | exact LeO.none _
      | refine LeO.ite ?_ ?_
      | refine LeO.bind ?_ (fun _ => ?_)
    · intro y0 y1 y2 y3 y4
      unfold massiflaw04_rising.j1
      repeat' first
      | (with_reducible exact ih0 _ _ _ _)
      | (with_reducible exact ih1 _ _ _ _ _)
      | (with_reducible exact ih2 _ _ _ _ _ _)
      | (with_reducible exact LeO.refl _)
      | (with_reducible exact LeO.none _)
      | (with_reducible refine LeO.ite ?_ ?_)
      | (with_reducible refine LeO.bind ?_ (fun _ => ?_))
      | exact ih0 _ _ _ _
      | exact ih1 _ _ _ _ _
      | exact ih2 _ _ _ _ _ _
      | exact LeO.none _
      | refine LeO.ite ?_ ?_
      | refine LeO.bind ?_ (fun _ => ?_)
    · intro y0 y1 y2 y3 y4 y5
      unfold massiflaw04_rising.l1
      repeat' first
      | (with_reducible exact ih0 _ _ _ _)
      | (with_reducible exact ih1 _ _ _ _ _)
      | (with_reducible exact ih2 _ _ _ _ _ _)
      | (with_reducible exact LeO.refl _)
      | (with_reducible exact LeO.none _)
      | (with_reducible refine LeO.ite ?_ ?_)
      | (with_reducible refine LeO.bind ?_ (fun _ => ?_))
      | exact ih0 _ _ _ _
      | exact ih1 _ _ _ _ _
      | exact ih2 _ _ _ _ _ _
      | exact LeO.none _
      | refine LeO.ite ?_ ?_
      | refine LeO.bind ?_ (fun _ => ?_)
theorem massiflaw04_rising.mono : ∀ a0 a1 k, LeO (massiflaw04_rising.f k a0 a1) (massiflaw04_rising.f (k + 1) a0 a1) := by
  intro a0 a1 k
  obtain ⟨ih0, ih1, ih2⟩ := massiflaw04_rising.mono_l k
  unfold massiflaw04_rising.f
  repeat' first
      | (with_reducible exact ih0 _ _ _ _)
      | (with_reducible exact ih1 _ _ _ _ _)
      | (with_reducible exact ih2 _ _ _ _ _ _)
      | (with_reducible exact LeO.refl _)
      | (with_reducible exact LeO.none _)
      | (with_reducible refine LeO.ite ?_ ?_)
      | (with_reducible refine LeO.bind ?_ (fun _ => ?_))
      | exact ih0 _ _ _ _
      | exact ih1 _ _ _ _ _
      | exact ih2 _ _ _ _ _ _
      | exact LeO.none _
      | refine LeO.ite ?_ ?_
      | refine LeO.bind ?_ (fun _ => ?_)
set_option maxHeartbeats 8000000 in
set_option maxRecDepth 100000 in
theorem massiflaw04_rising.calls (k : Nat) (a0 : Int) (A1 : Option Addr) (c1 : Nat) (l1 : List Int) (r : List Int) (w : World) (hr1 : Kd.C (Kd.int .u64) w A1 l1.length l1) (hc1 : l1.length ≤ c1) (h : massiflaw04_rising.f k a0 l1 = some r) :
    Calls Try.prog 15 #[.int .u64 a0, .slice A1 l1.length c1] w fun e w' => ∃ v0_ : Value, e = .returned (v0_) ∧ Kd.R (Kd.int .u64) 22 w' w.heap.size (fun _ => True) v0_ r ∧ Below w.heap.size w w' := by
  have HR1 := Aside0.mk hr1
  have HC1 := Aside0.mk hc1
  clear hr1 hc1
  have HB := Aside0.mk (Below.refl w.heap.size w)
  have H : (massiflaw04_rising.l0 k a0 l1 ([] : List Int) 0) = some r := h
  clear h
  have H' := Aside0.mk H
  clear H
  go_enter Try.func15, Try.ntmps15
  go_wp2
  go_loopg [5, 6] k (fun kq v5 v6 w' => ∃ (x5_1 : List Int) (x6_1 : Int), v6 = .int .i64 x6_1 ∧ Aside0 (massiflaw04_rising.l0 kq a0 l1 x5_1 x6_1 = some r) ∧ Aside0 (kq ≤ k) ∧ Aside0 (Kd.R (Kd.int .u64) 22 w' w.heap.size (fun _ => True) v5 x5_1) ∧ Aside0 (Below w.heap.size w w'))
  case atStart => exact ⟨(([] : List Int)), (0), (by first | rfl | (simp; done) | (simp [*]; done)), H', ⟨Nat.le_refl _⟩, ⟨by first | exact Kd.R_nil _ _ _ _ _ | exact Kd.N_nil _ _ _ _ _ | exact Kd.V_nil _ _ _ _ _ | exact Kd.Q_nil _ _ _ _ _ | exact Kd.S_nil _ _ _ _ _⟩, ⟨by repeat (first | (with_reducible first | exact HB.out | apply below_alloc | apply pw_below_drewN | apply below_drew1) | exact HB.out)⟩⟩
  case round =>
    clear H'
    try clear c1
    try clear p2
    obtain ⟨x5_1, x6_1, rfl, HA, HK1, HO_5, HB⟩ := hrel
    cases gk with
    | zero => exact absurd HA.out (by simp [massiflaw04_rising.l0])
    | succ k1 =>
      have H := HA.out
      clear HA
      simp only [massiflaw04_rising.l0] at H
      have HC3 := Aside0.mk H
      clear H
      go_upto_region 3 with (fail)
      go_cut [17] (fun v17 wc => ∃ (kq : Nat) (x17_2 : Bool), v17 = .bool x17_2 ∧ Aside0 (massiflaw04_rising.j1 kq a0 l1 x5_1 x6_1 x17_2 = some r) ∧ Aside0 (kq ≤ k1) ∧ Aside0 (Kd.R (Kd.int .u64) 22 wc w.heap.size (fun _ => True) u5 x5_1) ∧ Aside0 (Below w.heap.size w wc))
      case first =>
        have H := HC3.out
        clear HC3
        by_cases c4 : x6_1 < (l1.length : Int)
        · rw [if_pos c4] at H
          have c4b0 : decide (x6_1 < (l1.length : Int)) = true := decide_eq_true c4
          clear c4
          (first | rw [c4b0] | (simp only [i64_w, i32_w]; rw [c4b0]) | skip)
          have H' := Aside0.mk H
          clear H
          go_wp2
          go_meet
          case rel => exact ⟨_, (decide (x6_1 < 60)), (by first | rfl | (simp; done) | (simp [*]; done)), H', ⟨by have := HK1.out; first | omega | exact Nat.le_refl _⟩, ⟨by (with_reducible repeat (first | apply Kd.R_alloc | apply Kd.R_drewN | apply Kd.R_drew)); exact HO_5.out⟩, ⟨by repeat (first | (with_reducible first | exact HB.out | apply below_alloc | apply pw_below_drewN | apply below_drew1) | exact HB.out)⟩⟩
        · rw [if_neg c4] at H
          have c4b0 : decide (x6_1 < (l1.length : Int)) = false := decide_eq_false c4
          clear c4
          (first | rw [c4b0] | (simp only [i64_w, i32_w]; rw [c4b0]) | skip)
          have H' := Aside0.mk H
          clear H
          go_wp2
          go_meet
          case rel => exact ⟨_, (false), (by first | rfl | (simp; done) | (simp [*]; done)), H', ⟨by have := HK1.out; first | omega | exact Nat.le_refl _⟩, ⟨by (with_reducible repeat (first | apply Kd.R_alloc | apply Kd.R_drewN | apply Kd.R_drew)); exact HO_5.out⟩, ⟨by repeat (first | (with_reducible first | exact HB.out | apply below_alloc | apply pw_below_drewN | apply below_drew1) | exact HB.out)⟩⟩
      case rest =>
        clear HC3
        try clear c1
        try clear p2
        try clear c4
        try clear c4b0
        try clear p2
        obtain ⟨kq, x17_2, rfl, HA, HJ2, HO_5, HB⟩ := hcut
        cases kq with
        | zero => exact absurd HA.out (by simp [massiflaw04_rising.j1])
        | succ kj2 =>
          have H := HA.out
          clear HA
          simp only [massiflaw04_rising.j1] at H
          by_cases c5 : x17_2 = true
          · subst c5
            have H1 : (if 0 ≤ x6_1 then (if x6_1 < (l1.length : Int) then (if a0 = 0 then (none) else (massiflaw04_rising.l1 kj2 a0 l1 x5_1 x6_1 (Int.tmod (rd l1 x6_1) a0) 0)) else (none)) else (none)) = some r := by rw [if_pos rfl] at H; exact H
            clear H
            have H := H1
            clear H1
            by_cases c6 : 0 ≤ x6_1
            · rw [if_pos c6] at H
              have c6b0 : decide (0 ≤ x6_1) = true := decide_eq_true c6
              clear c6
              by_cases c7 : x6_1 < (l1.length : Int)
              · rw [if_pos c7] at H
                have c7b0 : decide (x6_1 < (l1.length : Int)) = true := decide_eq_true c7
                clear c7
                by_cases c8 : a0 = 0
                · rw [if_pos c8] at H
                  exact absurd H (by simp)
                · rw [if_neg c8] at H
                  have c8b0 : (a0 == 0) = false := beq_eq_false_iff_ne.mpr c8
                  have c8b1 : (a0 != 0) = true := bne_iff_ne.mpr c8
                  have H' := Aside0.mk H
                  clear H
                  have p173 : 0 ≤ (x6_1 : Int) := of_decide_eq_true (by first | (with_reducible assumption) | assumption)
                  have q173 : x6_1 < (l1.length : Int) := of_decide_eq_true (by first | (with_reducible assumption) | assumption)
                  obtain ⟨ad173, e173, hx173_0⟩ := Kd.at_int HR1.out x6_1 p173 q173
                  cases e173
                  replace hx173_0 := (HB.out.cell (World.block_lt_of_cell? w _ hx173_0)).trans hx173_0
                  replace p173 := eq_true p173
                  replace q173 := eq_true q173
                  go_wp2
                  go_loopg [8] kj2 (fun kq v8 w' => ∃ (x8_3 : Int), v8 = .int .i64 x8_3 ∧ Aside0 (massiflaw04_rising.l1 kq a0 l1 x5_1 x6_1 (Int.tmod (rd l1 x6_1) a0) x8_3 = some r) ∧ Aside0 (kq ≤ kj2) ∧ Aside0 (Kd.R (Kd.int .u64) 22 w' w.heap.size (fun _ => True) u5 x5_1) ∧ Aside0 (Below w.heap.size w w'))
                  case atStart => exact ⟨(0), (by first | rfl | (simp; done) | (simp [*]; done)), H', ⟨Nat.le_refl _⟩, ⟨by (with_reducible repeat (first | apply Kd.R_alloc | apply Kd.R_drewN | apply Kd.R_drew)); exact HO_5.out⟩, ⟨by repeat (first | (with_reducible first | exact HB.out | apply below_alloc | apply pw_below_drewN | apply below_drew1) | exact HB.out)⟩⟩
                  case round =>
                    clear H'
                    try clear c1
                    try clear p1
                    try clear q1
                    try clear hx1
                    try clear p2
                    try clear c4
                    try clear c4b0
                    try clear c5
                    try clear c6
                    try clear c6b0
                    try clear c7
                    try clear c7b0
                    try clear c8
                    try clear c8b0
                    try clear c8b1
                    try clear hx173_0
                    try clear p173
                    try clear p2
                    try clear q173
                    obtain ⟨x8_3, rfl, HA, HK3, HO_5, HB⟩ := hrel
                    cases gk with
                    | zero => exact absurd HA.out (by simp [massiflaw04_rising.l1])
                    | succ k3 =>
                      have H := HA.out
                      clear HA
                      simp only [massiflaw04_rising.l1] at H
                      by_cases c9 : x8_3 < (x5_1.length : Int)
                      · rw [if_pos c9] at H
                        have c9b0 : decide (x8_3 < (x5_1.length : Int)) = true := decide_eq_true c9
                        clear c9
                        by_cases c10 : 0 ≤ x8_3
                        · rw [if_pos c10] at H
                          have c10b0 : decide (0 ≤ x8_3) = true := decide_eq_true c10
                          clear c10
                          by_cases c11 : (rd x5_1 x8_3) < (Int.tmod (rd l1 x6_1) a0)
                          · rw [if_pos c11] at H
                            have c11b0 : decide ((rd x5_1 x8_3) < (Int.tmod (rd l1 x6_1) a0)) = true := decide_eq_true c11
                            clear c11
                            have H' := Aside0.mk H
                            clear H
                            obtain ⟨Ao12, co12, eo12⟩ := Kd.R_slice HO_5.out
                            subst eo12
                            have p174 : 0 ≤ (x8_3 : Int) := of_decide_eq_true (by first | (with_reducible assumption) | assumption)
                            have q174 : x8_3 < (x5_1.length : Int) := of_decide_eq_true (by first | (with_reducible assumption) | assumption)
                            obtain ⟨ad174, e174, hx174_0⟩ := Kd.at_int (Kd.R_reads' HO_5.out).2.2 x8_3 p174 q174
                            cases e174
                            replace p174 := eq_true p174
                            replace q174 := eq_true q174
                            go_wp2
                            go_roundg k3
                            case measure => have := HK1.out; have := HJ2.out; have := HK3.out; omega
                            case rel => exact ⟨(wrap64 (x8_3 + 1)), (by first | rfl | (simp; done) | (simp [*]; done)), H', ⟨by have := HK1.out; have := HJ2.out; have := HK3.out; omega⟩, ⟨by (with_reducible repeat (first | apply Kd.R_alloc | apply Kd.R_drewN | apply Kd.R_drew)); exact HO_5.out⟩, ⟨by repeat (first | (with_reducible first | exact HB.out | apply below_alloc | apply pw_below_drewN | apply below_drew1) | exact HB.out)⟩⟩
                          · rw [if_neg c11] at H
                            have c11b0 : decide ((rd x5_1 x8_3) < (Int.tmod (rd l1 x6_1) a0)) = false := decide_eq_false c11
                            clear c11
                            by_cases c13 : (rd x5_1 x8_3) = (Int.tmod (rd l1 x6_1) a0)
                            · rw [if_pos c13] at H
                              have c13b0 : ((rd x5_1 x8_3) == (Int.tmod (rd l1 x6_1) a0)) = true := beq_iff_eq.mpr c13
                              have c13b1 : ((rd x5_1 x8_3) != (Int.tmod (rd l1 x6_1) a0)) = false := bne_eq_false_iff_eq.mpr c13
                              clear c13
                              have H' := Aside0.mk H
                              clear H
                              obtain ⟨Ao14, co14, eo14⟩ := Kd.R_slice HO_5.out
                              subst eo14
                              have p174 : 0 ≤ (x8_3 : Int) := of_decide_eq_true (by first | (with_reducible assumption) | assumption)
                              have q174 : x8_3 < (x5_1.length : Int) := of_decide_eq_true (by first | (with_reducible assumption) | assumption)
                              obtain ⟨ad174, e174, hx174_0⟩ := Kd.at_int (Kd.R_reads' HO_5.out).2.2 x8_3 p174 q174
                              cases e174
                              replace p174 := eq_true p174
                              replace q174 := eq_true q174
                              have p175 : 0 ≤ (x8_3 : Int) := of_decide_eq_true (by first | (with_reducible assumption) | assumption)
                              have q175 : x8_3 < (x5_1.length : Int) := of_decide_eq_true (by first | (with_reducible assumption) | assumption)
                              obtain ⟨ad175, e175, hx175_0⟩ := Kd.at_int (Kd.R_reads' HO_5.out).2.2 x8_3 p175 q175
                              obtain rfl : ad174 = ad175 := (by injection e175)
                              replace p175 := eq_true p175
                              replace q175 := eq_true q175
                              go_wp2
                              go_roundg k3
                              case measure => have := HK1.out; have := HJ2.out; have := HK3.out; omega
                              case rel => exact ⟨(x5_1), (wrap64 (x6_1 + 1)), (by first | rfl | (simp; done) | (simp [*]; done)), H', ⟨by have := HK1.out; have := HJ2.out; have := HK3.out; omega⟩, ⟨by (with_reducible repeat (first | apply Kd.R_alloc | apply Kd.R_drewN | apply Kd.R_drew)); exact HO_5.out⟩, ⟨by repeat (first | (with_reducible first | exact HB.out | apply below_alloc | apply pw_below_drewN | apply below_drew1) | exact HB.out)⟩⟩
                            · rw [if_neg c13] at H
                              have c13b0 : ((rd x5_1 x8_3) == (Int.tmod (rd l1 x6_1) a0)) = false := beq_eq_false_iff_ne.mpr c13
                              have c13b1 : ((rd x5_1 x8_3) != (Int.tmod (rd l1 x6_1) a0)) = true := bne_iff_ne.mpr c13
                              have c15b0 := eq_true (of_decide_eq_true (by first | (with_reducible assumption) | assumption) : 0 ≤ x8_3)
                              by_cases c16 : x8_3 ≤ (x5_1.length : Int)
                              · rw [if_pos c16] at H
                                have c16b0 := eq_true c16
                                have c16b1 : decide (x8_3 ≤ (x5_1.length : Int)) = true := decide_eq_true c16
                                clear c16
                                obtain ⟨y176, hy176⟩ : ∃ y_ : List Int, y_ = (x5_1.take (x8_3 : Int).toNat) := ⟨_, rfl⟩
                                replace H : (if ([] : List Int).length + y176.length < 17592186044416 then ((some (([] : List Int) ++ y176 : List Int)).bind fun y180 => (if y180.length < 17592186044416 then ((some (y180 ++ [(Int.tmod (rd l1 x6_1) a0)] : List Int)).bind fun y183 => ((some (x5_1.drop (x8_3 : Int).toNat : List Int)).bind fun y186 => (if y183.length + y186.length < 17592186044416 then (massiflaw04_rising.l0 k3 a0 l1 (y183 ++ y186) (wrap64 (x6_1 + 1))) else (none)))) else (none))) else (none)) = some r := by first | (rw [hy176]; with_reducible exact H) | (have H2_ := (Option.bind_some _ _).symm.trans H; rw [hy176]; with_reducible exact H2_) | (have H2_ := (Option.bind_some _ _).symm.trans H; with_reducible exact H2_) | with_reducible exact H | (rw [hy176]; exact H) | exact H
                                have Ny176 := Aside0.mk hy176
                                clear hy176
                                by_cases c17 : ([] : List Int).length + y176.length < 17592186044416
                                · rw [if_pos c17] at H
                                  have LMc17 := Aside0.mk c17
                                  clear c17
                                  obtain ⟨y180, hy180⟩ : ∃ y_ : List Int, y_ = (([] : List Int) ++ y176) := ⟨_, rfl⟩
                                  replace H : (if y180.length < 17592186044416 then ((some (y180 ++ [(Int.tmod (rd l1 x6_1) a0)] : List Int)).bind fun y183 => ((some (x5_1.drop (x8_3 : Int).toNat : List Int)).bind fun y186 => (if y183.length + y186.length < 17592186044416 then (massiflaw04_rising.l0 k3 a0 l1 (y183 ++ y186) (wrap64 (x6_1 + 1))) else (none)))) else (none)) = some r := by first | (rw [hy180]; with_reducible exact H) | (have H2_ := (Option.bind_some _ _).symm.trans H; rw [hy180]; with_reducible exact H2_) | (have H2_ := (Option.bind_some _ _).symm.trans H; with_reducible exact H2_) | with_reducible exact H | (rw [hy180]; exact H) | exact H
                                  have Ny180 := Aside0.mk hy180
                                  clear hy180
                                  by_cases c18 : y180.length < 17592186044416
                                  · rw [if_pos c18] at H
                                    have LMc18 := Aside0.mk c18
                                    clear c18
                                    obtain ⟨y183, hy183⟩ : ∃ y_ : List Int, y_ = (y180 ++ [(Int.tmod (rd l1 x6_1) a0)]) := ⟨_, rfl⟩
                                    replace H : ((some (x5_1.drop (x8_3 : Int).toNat : List Int)).bind fun y186 => (if y183.length + y186.length < 17592186044416 then (massiflaw04_rising.l0 k3 a0 l1 (y183 ++ y186) (wrap64 (x6_1 + 1))) else (none))) = some r := by first | (rw [hy183]; with_reducible exact H) | (have H2_ := (Option.bind_some _ _).symm.trans H; rw [hy183]; with_reducible exact H2_) | (have H2_ := (Option.bind_some _ _).symm.trans H; with_reducible exact H2_) | with_reducible exact H | (rw [hy183]; exact H) | exact H
                                    have Ny183 := Aside0.mk hy183
                                    clear hy183
                                    have c19b0 := eq_true (of_decide_eq_true (by first | (with_reducible assumption) | assumption) : 0 ≤ x8_3)
                                    have c20b0 := eq_true (of_decide_eq_true (by first | (with_reducible assumption) | assumption) : x8_3 ≤ (x5_1.length : Int))
                                    obtain ⟨y186, hy186⟩ : ∃ y_ : List Int, y_ = (x5_1.drop (x8_3 : Int).toNat) := ⟨_, rfl⟩
                                    replace H : (if y183.length + y186.length < 17592186044416 then (massiflaw04_rising.l0 k3 a0 l1 (y183 ++ y186) (wrap64 (x6_1 + 1))) else (none)) = some r := by first | (rw [hy186]; with_reducible exact H) | (have H2_ := (Option.bind_some _ _).symm.trans H; rw [hy186]; with_reducible exact H2_) | (have H2_ := (Option.bind_some _ _).symm.trans H; with_reducible exact H2_) | with_reducible exact H | (rw [hy186]; exact H) | exact H
                                    have Ny186 := Aside0.mk hy186
                                    clear hy186
                                    by_cases c21 : y183.length + y186.length < 17592186044416
                                    · rw [if_pos c21] at H
                                      have LMc21 := Aside0.mk c21
                                      clear c21
                                      obtain ⟨y190, hy190⟩ : ∃ y_ : List Int, y_ = (y183 ++ y186) := ⟨_, rfl⟩
                                      replace H : (massiflaw04_rising.l0 k3 a0 l1 y190 (wrap64 (x6_1 + 1))) = some r := by first | (rw [hy190]; with_reducible exact H) | (have H2_ := (Option.bind_some _ _).symm.trans H; rw [hy190]; with_reducible exact H2_) | (have H2_ := (Option.bind_some _ _).symm.trans H; with_reducible exact H2_) | with_reducible exact H | (rw [hy190]; exact H) | exact H
                                      have Ny190 := Aside0.mk hy190
                                      clear hy190
                                      have H' := Aside0.mk H
                                      clear H
                                      obtain ⟨Ao22, co22, eo22⟩ := Kd.R_slice HO_5.out
                                      subst eo22
                                      have p174 : 0 ≤ (x8_3 : Int) := of_decide_eq_true (by first | (with_reducible assumption) | assumption)
                                      have q174 : x8_3 < (x5_1.length : Int) := of_decide_eq_true (by first | (with_reducible assumption) | assumption)
                                      obtain ⟨ad174, e174, hx174_0⟩ := Kd.at_int (Kd.R_reads' HO_5.out).2.2 x8_3 p174 q174
                                      cases e174
                                      replace p174 := eq_true p174
                                      replace q174 := eq_true q174
                                      have p175 : 0 ≤ (x8_3 : Int) := of_decide_eq_true (by first | (with_reducible assumption) | assumption)
                                      have q175 : x8_3 < (x5_1.length : Int) := of_decide_eq_true (by first | (with_reducible assumption) | assumption)
                                      obtain ⟨ad175, e175, hx175_0⟩ := Kd.at_int (Kd.R_reads' HO_5.out).2.2 x8_3 p175 q175
                                      obtain rfl : ad174 = ad175 := (by injection e175)
                                      replace p175 := eq_true p175
                                      replace q175 := eq_true q175
                                      have q23 : (x8_3 : Int) ≤ ((x5_1.length : Int) : Int) := of_decide_eq_true (by first | (with_reducible assumption) | assumption)
                                      obtain ⟨i023, hi023, _, hsz23, _⟩ := info_parts info22
                                      have hroom23 : x5_1.length ≤ co22 := (Kd.R_reads' HO_5.out).2.1
                                      have hC23 : Kd.C (Kd.int .u64) _ (some ad174) x5_1.length x5_1 := (Kd.R_reads' HO_5.out).2.2
                                      have hcut23 := cut_to (P := Try.prog) 23 22 .i64 Try.underlying23 hi023 (some ad174) x5_1.length co22 x8_3 (of_decide_eq_true (by first | (with_reducible assumption) | assumption)) q23 hroom23
                                      have hr23 := Kd.C_take (m := (x8_3 : Int).toNat) hC23 (by omega)
                                      have hy23 : y176.length = (x8_3 : Int).toNat := (by rw [Ny176.out, List.length_take]; omega)
                                      rw [← Ny176.out] at hr23
                                      rw [← hy23] at hcut23
                                      have HR179 := Aside0.mk hr23
                                      have HC179 := Aside0.mk (show y176.length ≤ co22 from by omega)
                                      clear hr23 hC23 hroom23 hi023 hsz23
                                      have KY23 := Aside0.mk hy23
                                      clear hy23
                                      have KL23 := Aside0.mk (show (x8_3 : Int).toNat ≤ x5_1.length from by omega)
                                      replace q23 := eq_true q23
                                      go_wp2_with (first | ((with_reducible refine gate_builtin (b := .append) (xs := #[.tmp 52, .tmp 55]) rfl ?_); at_builtin; refine Kd.R_append_rows (Kd.int .u64) (w0 := w) w.heap.size rfl (.tmp 52) (.tmp 55) 23 22 (.int .u64 0) 8 rfl Try.underlying23 info22 rfl (by decide) (by omega) (.slice none 0 0) ([] : List Int) y176 _ _ _ (fun k_ => some k_ ≠ (.slice (some ad174) x5_1.length co22 : Value).ownBlock) (fun _ => False) rfl rfl ?aO ?aR (fun _ _ h => h) (fun _ h => h.elim) ?aF ?aB ?aS ?aL ?_; (case aR => repeat (first | exact (by repeat (first | (with_reducible exact HR179.out) | (with_reducible refine Kd.C_alloc ?_ _) | (with_reducible refine Kd.C_drewN ?_ _) | (with_reducible refine Kd.C_drew ?_) | exact HR179.out)) | (with_reducible refine Kd.C_alloc ?_ _) | (with_reducible refine Kd.C_drewN ?_ _) | (with_reducible refine Kd.C_drew ?_))); (case aB => exact (by repeat (first | (with_reducible first | exact HB.out | apply below_alloc | apply pw_below_drewN | apply below_drew1) | exact HB.out))); (case aF => exact (fun k_ hk => Kd.fresh' (Kd.R_lt (by (with_reducible repeat (first | apply Kd.R_alloc | apply Kd.R_drewN | apply Kd.R_drew)); exact HO_5.out)) k_ hk)); (case aO => exact ((Kd.R_nil _ _ _ _ (fun k_ => some k_ ≠ (.slice (some ad174) x5_1.length co22 : Value).ownBlock)))); (case aS => exact (below_size (by repeat (first | (with_reducible first | exact HB.out | apply below_alloc | apply pw_below_drewN | apply below_drew1) | exact HB.out)))); (case aL => have := LMc17.out; omega); intro v181 w24 ho hb hg hat; rw [← Ny180.out] at ho; have n0_ := Aside0.mk (Kd.R_after (Kd.R_apart_nil (by (with_reducible repeat (first | apply Kd.R_alloc | apply Kd.R_drewN | apply Kd.R_drew)); exact HO_5.out)) hg hat); have n1_ := Aside0.mk (hb); have n2_ := Aside0.mk ((show Kd.C (Kd.int .u64) w24 (some ad174) y176.length y176 from by rw [Ny176.out]; exact Kd.C_take (m := (x8_3 : Int).toNat) ((Kd.R_reads' (Kd.R_after (Kd.R_apart_nil (by (with_reducible repeat (first | apply Kd.R_alloc | apply Kd.R_drewN | apply Kd.R_drew)); exact HO_5.out)) hg hat)).2.2) KL23.out)); have n3_ := Aside0.mk (ho); clear HO_5; clear HB; clear HR179; have HO_5 := n0_; have HB := n1_; have HR179 := n2_; have HO182 := n3_; clear n0_ n1_ n2_ n3_; clear ho hb hg hat) | ((with_reducible refine gate_builtin (b := .append) (xs := #[.tmp 57, .tmp 59]) rfl ?_); at_builtin; refine Kd.R_append (Kd.int .u64) (w0 := w) w.heap.size rfl (.tmp 57) (.tmp 59) 23 22 (.int .u64 0) 8 rfl Try.underlying23 info22 rfl (by decide) (by omega) v181 y180 (Int.tmod (rd l1 x6_1) a0) [.int .u64 (Int.tmod (rd l1 x6_1) a0)] (fun k_ => some k_ ≠ (.slice (some ad174) x5_1.length co22 : Value).ownBlock) (fun _ => False) rfl rfl ?aP (fun _ hk => hk.elim) ?aF ?aO ?aB ?aS ?aL ?_; (case aP => exact rfl); (case aB => exact (by repeat (first | (with_reducible first | exact HB.out | apply below_alloc | apply pw_below_drewN | apply below_drew1) | exact HB.out))); (case aF => exact (fun k_ hk => Kd.fresh' (Kd.R_lt (by (with_reducible repeat (first | apply Kd.R_alloc | apply Kd.R_drewN | apply Kd.R_drew)); exact HO_5.out)) k_ hk)); (case aO => exact (by (with_reducible repeat (first | apply Kd.R_alloc | apply Kd.R_drewN | apply Kd.R_drew)); exact HO182.out)); (case aS => exact (below_size (by repeat (first | (with_reducible first | exact HB.out | apply below_alloc | apply pw_below_drewN | apply below_drew1) | exact HB.out)))); (case aL => have := LMc18.out; omega); intro v184 w25 ho hb hg hat; rw [← Ny183.out] at ho; have n0_ := Aside0.mk (Kd.R_after (ok := (fun _ => True)) (by (with_reducible repeat (first | apply Kd.R_alloc | apply Kd.R_drewN | apply Kd.R_drew)); exact HO_5.out) hg hat); have n1_ := Aside0.mk (hb); have n2_ := Aside0.mk ((show Kd.C (Kd.int .u64) w25 (some ad174) y176.length y176 from by rw [Ny176.out]; exact Kd.C_take (m := (x8_3 : Int).toNat) ((Kd.R_reads' (Kd.R_after (ok := (fun _ => True)) (by (with_reducible repeat (first | apply Kd.R_alloc | apply Kd.R_drewN | apply Kd.R_drew)); exact HO_5.out) hg hat)).2.2) KL23.out)); have n3_ := Aside0.mk (ho); clear HO_5; clear HB; clear HR179; clear HO182; have HO_5 := n0_; have HB := n1_; have HR179 := n2_; have HO185 := n3_; clear n0_ n1_ n2_ n3_; clear ho hb hg hat; have q26 : (x8_3 : Int) ≤ ((x5_1.length : Int) : Int) := of_decide_eq_true (by first | (with_reducible assumption) | assumption); obtain ⟨i026, hi026, _, hsz26, _⟩ := info_parts info22; have hroom26 : x5_1.length ≤ co22 := (Kd.R_reads' HO_5.out).2.1; have hC26 : Kd.C (Kd.int .u64) _ (some ad174) x5_1.length x5_1 := (Kd.R_reads' HO_5.out).2.2; have q026 : (0 : Int) ≤ (x8_3 : Int) := of_decide_eq_true (by first | (with_reducible assumption) | assumption); have hcut26 := cut_from (P := Try.prog) 23 22 .i64 Try.underlying23 hi026 1 hsz26 (some ad174) x5_1.length co22 x8_3 q026 q26; have hr26 := Kd.C_drop (m := (x8_3 : Int).toNat) (c := co22) hC26 (by omega) hroom26; obtain ⟨A26, hA26⟩ : ∃ A1, A1 = (if co22 = (x8_3 : Int).toNat then (some ad174) else ((some ad174) : Option Addr).map (·.add ((x8_3 : Int).toNat * 1))) := ⟨_, rfl⟩; obtain ⟨c26, hc26⟩ : ∃ c1, c1 = co22 - (x8_3 : Int).toNat := ⟨_, rfl⟩; have hy26 : y186.length = x5_1.length - (x8_3 : Int).toNat := (by rw [Ny186.out, List.length_drop] <;> omega); rw [show (x5_1).drop (x8_3 : Int).toNat = y186 from Ny186.out.symm] at hr26; replace hr26 : Kd.C (Kd.int .u64) _ A26 y186.length y186 := (by rw [hA26]; exact hr26); rw [← hy26, ← hA26, ← hc26] at hcut26; have HR189 := Aside0.mk hr26; have HC189 := Aside0.mk (show y186.length ≤ c26 from by rw [hy26, hc26]; exact Nat.sub_le_sub_right hroom26 _); clear hr26 hC26 hroom26 hi026 hsz26 hc26; have KY26 := Aside0.mk hy26; have KA26 := Aside0.mk hA26; clear hy26 hA26; have KL26 := Aside0.mk (show (x8_3 : Int).toNat ≤ x5_1.length from by omega); replace q26 := eq_true q26) | ((with_reducible refine gate_builtin (b := .append) (xs := #[.tmp 61, .tmp 64]) rfl ?_); at_builtin; refine Kd.R_append_rows (Kd.int .u64) (w0 := w) w.heap.size rfl (.tmp 61) (.tmp 64) 23 22 (.int .u64 0) 8 rfl Try.underlying23 info22 rfl (by decide) (by omega) v184 y183 y186 _ _ _ (fun k_ => some k_ ≠ (.slice (some ad174) x5_1.length co22 : Value).ownBlock) (fun _ => False) rfl rfl ?aO ?aR (fun _ _ h => h) (fun _ h => h.elim) ?aF ?aB ?aS ?aL ?_; (case aR => repeat (first | exact (by repeat (first | (with_reducible exact HR189.out) | (with_reducible refine Kd.C_alloc ?_ _) | (with_reducible refine Kd.C_drewN ?_ _) | (with_reducible refine Kd.C_drew ?_) | exact HR189.out)) | (with_reducible refine Kd.C_alloc ?_ _) | (with_reducible refine Kd.C_drewN ?_ _) | (with_reducible refine Kd.C_drew ?_))); (case aB => exact (by repeat (first | (with_reducible first | exact HB.out | apply below_alloc | apply pw_below_drewN | apply below_drew1) | exact HB.out))); (case aF => exact (fun k_ hk => Kd.fresh' (Kd.R_lt (by (with_reducible repeat (first | apply Kd.R_alloc | apply Kd.R_drewN | apply Kd.R_drew)); exact HO_5.out)) k_ hk)); (case aO => exact (by (with_reducible repeat (first | apply Kd.R_alloc | apply Kd.R_drewN | apply Kd.R_drew)); exact HO185.out)); (case aS => exact (below_size (by repeat (first | (with_reducible first | exact HB.out | apply below_alloc | apply pw_below_drewN | apply below_drew1) | exact HB.out)))); (case aL => have := LMc21.out; omega); intro v191 w27 ho hb hg hat; rw [← Ny190.out] at ho; have n0_ := Aside0.mk (Kd.R_after (ok := (fun _ => True)) (by (with_reducible repeat (first | apply Kd.R_alloc | apply Kd.R_drewN | apply Kd.R_drew)); exact HO_5.out) hg hat); have n1_ := Aside0.mk (hb); have n2_ := Aside0.mk ((show Kd.C (Kd.int .u64) w27 (some ad174) y176.length y176 from by rw [Ny176.out]; exact Kd.C_take (m := (x8_3 : Int).toNat) ((Kd.R_reads' (Kd.R_after (ok := (fun _ => True)) (by (with_reducible repeat (first | apply Kd.R_alloc | apply Kd.R_drewN | apply Kd.R_drew)); exact HO_5.out) hg hat)).2.2) KL23.out)); have n3_ := Aside0.mk ((show Kd.C (Kd.int .u64) w27 A26 y186.length y186 from by rw [Ny186.out, KA26.out]; exact Kd.C_drop (m := (x8_3 : Int).toNat) (c := co22) ((Kd.R_reads' (Kd.R_after (ok := (fun _ => True)) (by (with_reducible repeat (first | apply Kd.R_alloc | apply Kd.R_drewN | apply Kd.R_drew)); exact HO_5.out) hg hat)).2.2) KL26.out ((Kd.R_reads' (Kd.R_after (ok := (fun _ => True)) (by (with_reducible repeat (first | apply Kd.R_alloc | apply Kd.R_drewN | apply Kd.R_drew)); exact HO_5.out) hg hat)).2.1))); have n4_ := Aside0.mk (ho); clear HO_5; clear HB; clear HR179; clear HR189; clear HO185; have HO_5 := n0_; have HB := n1_; have HR179 := n2_; have HR189 := n3_; have HO192 := n4_; clear n0_ n1_ n2_ n3_ n4_; clear ho hb hg hat))
                                      go_roundg k3
                                      case measure => have := HK1.out; have := HJ2.out; have := HK3.out; omega
                                      case rel => exact ⟨(y190), (wrap64 (x6_1 + 1)), (by first | rfl | (simp; done) | (simp [*]; done)), H', ⟨by have := HK1.out; have := HJ2.out; have := HK3.out; omega⟩, ⟨by (with_reducible repeat (first | apply Kd.R_alloc | apply Kd.R_drewN | apply Kd.R_drew)); exact Kd.R_mono HO192.out (fun _ hk => trivial)⟩, ⟨by repeat (first | (with_reducible first | exact HB.out | apply below_alloc | apply pw_below_drewN | apply below_drew1) | exact HB.out)⟩⟩
                                    · rw [if_neg c21] at H
                                      exact absurd H (by simp)
                                  · rw [if_neg c18] at H
                                    exact absurd H (by simp)
                                · rw [if_neg c17] at H
                                  exact absurd H (by simp)
                              · rw [if_neg c16] at H
                                exact absurd H (by simp)
                        · rw [if_neg c10] at H
                          exact absurd H (by simp)
                      · rw [if_neg c9] at H
                        have c9b0 : decide (x8_3 < (x5_1.length : Int)) = false := decide_eq_false c9
                        clear c9
                        by_cases c28 : 0 ≤ x8_3
                        · rw [if_pos c28] at H
                          have c28b0 := eq_true c28
                          have c28b1 : decide (0 ≤ x8_3) = true := decide_eq_true c28
                          clear c28
                          by_cases c29 : x8_3 ≤ (x5_1.length : Int)
                          · rw [if_pos c29] at H
                            have c29b0 := eq_true c29
                            have c29b1 : decide (x8_3 ≤ (x5_1.length : Int)) = true := decide_eq_true c29
                            clear c29
                            obtain ⟨y193, hy193⟩ : ∃ y_ : List Int, y_ = (x5_1.take (x8_3 : Int).toNat) := ⟨_, rfl⟩
                            replace H : (if ([] : List Int).length + y193.length < 17592186044416 then ((some (([] : List Int) ++ y193 : List Int)).bind fun y197 => (if y197.length < 17592186044416 then ((some (y197 ++ [(Int.tmod (rd l1 x6_1) a0)] : List Int)).bind fun y200 => ((some (x5_1.drop (x8_3 : Int).toNat : List Int)).bind fun y203 => (if y200.length + y203.length < 17592186044416 then (massiflaw04_rising.l0 k3 a0 l1 (y200 ++ y203) (wrap64 (x6_1 + 1))) else (none)))) else (none))) else (none)) = some r := by first | (rw [hy193]; with_reducible exact H) | (have H2_ := (Option.bind_some _ _).symm.trans H; rw [hy193]; with_reducible exact H2_) | (have H2_ := (Option.bind_some _ _).symm.trans H; with_reducible exact H2_) | with_reducible exact H | (rw [hy193]; exact H) | exact H
                            have Ny193 := Aside0.mk hy193
                            clear hy193
                            by_cases c30 : ([] : List Int).length + y193.length < 17592186044416
                            · rw [if_pos c30] at H
                              have LMc30 := Aside0.mk c30
                              clear c30
                              obtain ⟨y197, hy197⟩ : ∃ y_ : List Int, y_ = (([] : List Int) ++ y193) := ⟨_, rfl⟩
                              replace H : (if y197.length < 17592186044416 then ((some (y197 ++ [(Int.tmod (rd l1 x6_1) a0)] : List Int)).bind fun y200 => ((some (x5_1.drop (x8_3 : Int).toNat : List Int)).bind fun y203 => (if y200.length + y203.length < 17592186044416 then (massiflaw04_rising.l0 k3 a0 l1 (y200 ++ y203) (wrap64 (x6_1 + 1))) else (none)))) else (none)) = some r := by first | (rw [hy197]; with_reducible exact H) | (have H2_ := (Option.bind_some _ _).symm.trans H; rw [hy197]; with_reducible exact H2_) | (have H2_ := (Option.bind_some _ _).symm.trans H; with_reducible exact H2_) | with_reducible exact H | (rw [hy197]; exact H) | exact H
                              have Ny197 := Aside0.mk hy197
                              clear hy197
                              by_cases c31 : y197.length < 17592186044416
                              · rw [if_pos c31] at H
                                have LMc31 := Aside0.mk c31
                                clear c31
                                obtain ⟨y200, hy200⟩ : ∃ y_ : List Int, y_ = (y197 ++ [(Int.tmod (rd l1 x6_1) a0)]) := ⟨_, rfl⟩
                                replace H : ((some (x5_1.drop (x8_3 : Int).toNat : List Int)).bind fun y203 => (if y200.length + y203.length < 17592186044416 then (massiflaw04_rising.l0 k3 a0 l1 (y200 ++ y203) (wrap64 (x6_1 + 1))) else (none))) = some r := by first | (rw [hy200]; with_reducible exact H) | (have H2_ := (Option.bind_some _ _).symm.trans H; rw [hy200]; with_reducible exact H2_) | (have H2_ := (Option.bind_some _ _).symm.trans H; with_reducible exact H2_) | with_reducible exact H | (rw [hy200]; exact H) | exact H
                                have Ny200 := Aside0.mk hy200
                                clear hy200
                                have c32b0 := eq_true (of_decide_eq_true (by first | (with_reducible assumption) | assumption) : 0 ≤ x8_3)
                                have c33b0 := eq_true (of_decide_eq_true (by first | (with_reducible assumption) | assumption) : x8_3 ≤ (x5_1.length : Int))
                                obtain ⟨y203, hy203⟩ : ∃ y_ : List Int, y_ = (x5_1.drop (x8_3 : Int).toNat) := ⟨_, rfl⟩
                                replace H : (if y200.length + y203.length < 17592186044416 then (massiflaw04_rising.l0 k3 a0 l1 (y200 ++ y203) (wrap64 (x6_1 + 1))) else (none)) = some r := by first | (rw [hy203]; with_reducible exact H) | (have H2_ := (Option.bind_some _ _).symm.trans H; rw [hy203]; with_reducible exact H2_) | (have H2_ := (Option.bind_some _ _).symm.trans H; with_reducible exact H2_) | with_reducible exact H | (rw [hy203]; exact H) | exact H
                                have Ny203 := Aside0.mk hy203
                                clear hy203
                                by_cases c34 : y200.length + y203.length < 17592186044416
                                · rw [if_pos c34] at H
                                  have LMc34 := Aside0.mk c34
                                  clear c34
                                  obtain ⟨y207, hy207⟩ : ∃ y_ : List Int, y_ = (y200 ++ y203) := ⟨_, rfl⟩
                                  replace H : (massiflaw04_rising.l0 k3 a0 l1 y207 (wrap64 (x6_1 + 1))) = some r := by first | (rw [hy207]; with_reducible exact H) | (have H2_ := (Option.bind_some _ _).symm.trans H; rw [hy207]; with_reducible exact H2_) | (have H2_ := (Option.bind_some _ _).symm.trans H; with_reducible exact H2_) | with_reducible exact H | (rw [hy207]; exact H) | exact H
                                  have Ny207 := Aside0.mk hy207
                                  clear hy207
                                  have H' := Aside0.mk H
                                  clear H
                                  obtain ⟨Ao35, co35, eo35⟩ := Kd.R_slice HO_5.out
                                  subst eo35
                                  have q36 : (x8_3 : Int) ≤ ((x5_1.length : Int) : Int) := of_decide_eq_true (by first | (with_reducible assumption) | assumption)
                                  obtain ⟨i036, hi036, _, hsz36, _⟩ := info_parts info22
                                  have hroom36 : x5_1.length ≤ co35 := (Kd.R_reads' HO_5.out).2.1
                                  have hC36 : Kd.C (Kd.int .u64) _ Ao35 x5_1.length x5_1 := (Kd.R_reads' HO_5.out).2.2
                                  have hcut36 := cut_to (P := Try.prog) 23 22 .i64 Try.underlying23 hi036 Ao35 x5_1.length co35 x8_3 (of_decide_eq_true (by first | (with_reducible assumption) | assumption)) q36 hroom36
                                  have hr36 := Kd.C_take (m := (x8_3 : Int).toNat) hC36 (by omega)
                                  have hy36 : y193.length = (x8_3 : Int).toNat := (by rw [Ny193.out, List.length_take]; omega)
                                  rw [← Ny193.out] at hr36
                                  rw [← hy36] at hcut36
                                  have HR196 := Aside0.mk hr36
                                  have HC196 := Aside0.mk (show y193.length ≤ co35 from by omega)
                                  clear hr36 hC36 hroom36 hi036 hsz36
                                  have KY36 := Aside0.mk hy36
                                  clear hy36
                                  have KL36 := Aside0.mk (show (x8_3 : Int).toNat ≤ x5_1.length from by omega)
                                  replace q36 := eq_true q36
                                  go_wp2_with (first | ((with_reducible refine gate_builtin (b := .append) (xs := #[.tmp 52, .tmp 55]) rfl ?_); at_builtin; refine Kd.R_append_rows (Kd.int .u64) (w0 := w) w.heap.size rfl (.tmp 52) (.tmp 55) 23 22 (.int .u64 0) 8 rfl Try.underlying23 info22 rfl (by decide) (by omega) (.slice none 0 0) ([] : List Int) y193 _ _ _ (fun k_ => some k_ ≠ (.slice Ao35 x5_1.length co35 : Value).ownBlock) (fun _ => False) rfl rfl ?aO ?aR (fun _ _ h => h) (fun _ h => h.elim) ?aF ?aB ?aS ?aL ?_; (case aR => repeat (first | exact (by repeat (first | (with_reducible exact HR196.out) | (with_reducible refine Kd.C_alloc ?_ _) | (with_reducible refine Kd.C_drewN ?_ _) | (with_reducible refine Kd.C_drew ?_) | exact HR196.out)) | (with_reducible refine Kd.C_alloc ?_ _) | (with_reducible refine Kd.C_drewN ?_ _) | (with_reducible refine Kd.C_drew ?_))); (case aB => exact (by repeat (first | (with_reducible first | exact HB.out | apply below_alloc | apply pw_below_drewN | apply below_drew1) | exact HB.out))); (case aF => exact (fun k_ hk => Kd.fresh' (Kd.R_lt (by (with_reducible repeat (first | apply Kd.R_alloc | apply Kd.R_drewN | apply Kd.R_drew)); exact HO_5.out)) k_ hk)); (case aO => exact ((Kd.R_nil _ _ _ _ (fun k_ => some k_ ≠ (.slice Ao35 x5_1.length co35 : Value).ownBlock)))); (case aS => exact (below_size (by repeat (first | (with_reducible first | exact HB.out | apply below_alloc | apply pw_below_drewN | apply below_drew1) | exact HB.out)))); (case aL => have := LMc30.out; omega); intro v198 w37 ho hb hg hat; rw [← Ny197.out] at ho; have n0_ := Aside0.mk (Kd.R_after (Kd.R_apart_nil (by (with_reducible repeat (first | apply Kd.R_alloc | apply Kd.R_drewN | apply Kd.R_drew)); exact HO_5.out)) hg hat); have n1_ := Aside0.mk (hb); have n2_ := Aside0.mk ((show Kd.C (Kd.int .u64) w37 Ao35 y193.length y193 from by rw [Ny193.out]; exact Kd.C_take (m := (x8_3 : Int).toNat) ((Kd.R_reads' (Kd.R_after (Kd.R_apart_nil (by (with_reducible repeat (first | apply Kd.R_alloc | apply Kd.R_drewN | apply Kd.R_drew)); exact HO_5.out)) hg hat)).2.2) KL36.out)); have n3_ := Aside0.mk (ho); clear HO_5; clear HB; clear HR196; have HO_5 := n0_; have HB := n1_; have HR196 := n2_; have HO199 := n3_; clear n0_ n1_ n2_ n3_; clear ho hb hg hat) | ((with_reducible refine gate_builtin (b := .append) (xs := #[.tmp 57, .tmp 59]) rfl ?_); at_builtin; refine Kd.R_append (Kd.int .u64) (w0 := w) w.heap.size rfl (.tmp 57) (.tmp 59) 23 22 (.int .u64 0) 8 rfl Try.underlying23 info22 rfl (by decide) (by omega) v198 y197 (Int.tmod (rd l1 x6_1) a0) [.int .u64 (Int.tmod (rd l1 x6_1) a0)] (fun k_ => some k_ ≠ (.slice Ao35 x5_1.length co35 : Value).ownBlock) (fun _ => False) rfl rfl ?aP (fun _ hk => hk.elim) ?aF ?aO ?aB ?aS ?aL ?_; (case aP => exact rfl); (case aB => exact (by repeat (first | (with_reducible first | exact HB.out | apply below_alloc | apply pw_below_drewN | apply below_drew1) | exact HB.out))); (case aF => exact (fun k_ hk => Kd.fresh' (Kd.R_lt (by (with_reducible repeat (first | apply Kd.R_alloc | apply Kd.R_drewN | apply Kd.R_drew)); exact HO_5.out)) k_ hk)); (case aO => exact (by (with_reducible repeat (first | apply Kd.R_alloc | apply Kd.R_drewN | apply Kd.R_drew)); exact HO199.out)); (case aS => exact (below_size (by repeat (first | (with_reducible first | exact HB.out | apply below_alloc | apply pw_below_drewN | apply below_drew1) | exact HB.out)))); (case aL => have := LMc31.out; omega); intro v201 w38 ho hb hg hat; rw [← Ny200.out] at ho; have n0_ := Aside0.mk (Kd.R_after (ok := (fun _ => True)) (by (with_reducible repeat (first | apply Kd.R_alloc | apply Kd.R_drewN | apply Kd.R_drew)); exact HO_5.out) hg hat); have n1_ := Aside0.mk (hb); have n2_ := Aside0.mk ((show Kd.C (Kd.int .u64) w38 Ao35 y193.length y193 from by rw [Ny193.out]; exact Kd.C_take (m := (x8_3 : Int).toNat) ((Kd.R_reads' (Kd.R_after (ok := (fun _ => True)) (by (with_reducible repeat (first | apply Kd.R_alloc | apply Kd.R_drewN | apply Kd.R_drew)); exact HO_5.out) hg hat)).2.2) KL36.out)); have n3_ := Aside0.mk (ho); clear HO_5; clear HB; clear HR196; clear HO199; have HO_5 := n0_; have HB := n1_; have HR196 := n2_; have HO202 := n3_; clear n0_ n1_ n2_ n3_; clear ho hb hg hat; have q39 : (x8_3 : Int) ≤ ((x5_1.length : Int) : Int) := of_decide_eq_true (by first | (with_reducible assumption) | assumption); obtain ⟨i039, hi039, _, hsz39, _⟩ := info_parts info22; have hroom39 : x5_1.length ≤ co35 := (Kd.R_reads' HO_5.out).2.1; have hC39 : Kd.C (Kd.int .u64) _ Ao35 x5_1.length x5_1 := (Kd.R_reads' HO_5.out).2.2; have q039 : (0 : Int) ≤ (x8_3 : Int) := of_decide_eq_true (by first | (with_reducible assumption) | assumption); have hcut39 := cut_from (P := Try.prog) 23 22 .i64 Try.underlying23 hi039 1 hsz39 Ao35 x5_1.length co35 x8_3 q039 q39; have hr39 := Kd.C_drop (m := (x8_3 : Int).toNat) (c := co35) hC39 (by omega) hroom39; obtain ⟨A39, hA39⟩ : ∃ A1, A1 = (if co35 = (x8_3 : Int).toNat then Ao35 else (Ao35 : Option Addr).map (·.add ((x8_3 : Int).toNat * 1))) := ⟨_, rfl⟩; obtain ⟨c39, hc39⟩ : ∃ c1, c1 = co35 - (x8_3 : Int).toNat := ⟨_, rfl⟩; have hy39 : y203.length = x5_1.length - (x8_3 : Int).toNat := (by rw [Ny203.out, List.length_drop] <;> omega); rw [show (x5_1).drop (x8_3 : Int).toNat = y203 from Ny203.out.symm] at hr39; replace hr39 : Kd.C (Kd.int .u64) _ A39 y203.length y203 := (by rw [hA39]; exact hr39); rw [← hy39, ← hA39, ← hc39] at hcut39; have HR206 := Aside0.mk hr39; have HC206 := Aside0.mk (show y203.length ≤ c39 from by rw [hy39, hc39]; exact Nat.sub_le_sub_right hroom39 _); clear hr39 hC39 hroom39 hi039 hsz39 hc39; have KY39 := Aside0.mk hy39; have KA39 := Aside0.mk hA39; clear hy39 hA39; have KL39 := Aside0.mk (show (x8_3 : Int).toNat ≤ x5_1.length from by omega); replace q39 := eq_true q39) | ((with_reducible refine gate_builtin (b := .append) (xs := #[.tmp 61, .tmp 64]) rfl ?_); at_builtin; refine Kd.R_append_rows (Kd.int .u64) (w0 := w) w.heap.size rfl (.tmp 61) (.tmp 64) 23 22 (.int .u64 0) 8 rfl Try.underlying23 info22 rfl (by decide) (by omega) v201 y200 y203 _ _ _ (fun k_ => some k_ ≠ (.slice Ao35 x5_1.length co35 : Value).ownBlock) (fun _ => False) rfl rfl ?aO ?aR (fun _ _ h => h) (fun _ h => h.elim) ?aF ?aB ?aS ?aL ?_; (case aR => repeat (first | exact (by repeat (first | (with_reducible exact HR206.out) | (with_reducible refine Kd.C_alloc ?_ _) | (with_reducible refine Kd.C_drewN ?_ _) | (with_reducible refine Kd.C_drew ?_) | exact HR206.out)) | (with_reducible refine Kd.C_alloc ?_ _) | (with_reducible refine Kd.C_drewN ?_ _) | (with_reducible refine Kd.C_drew ?_))); (case aB => exact (by repeat (first | (with_reducible first | exact HB.out | apply below_alloc | apply pw_below_drewN | apply below_drew1) | exact HB.out))); (case aF => exact (fun k_ hk => Kd.fresh' (Kd.R_lt (by (with_reducible repeat (first | apply Kd.R_alloc | apply Kd.R_drewN | apply Kd.R_drew)); exact HO_5.out)) k_ hk)); (case aO => exact (by (with_reducible repeat (first | apply Kd.R_alloc | apply Kd.R_drewN | apply Kd.R_drew)); exact HO202.out)); (case aS => exact (below_size (by repeat (first | (with_reducible first | exact HB.out | apply below_alloc | apply pw_below_drewN | apply below_drew1) | exact HB.out)))); (case aL => have := LMc34.out; omega); intro v208 w40 ho hb hg hat; rw [← Ny207.out] at ho; have n0_ := Aside0.mk (Kd.R_after (ok := (fun _ => True)) (by (with_reducible repeat (first | apply Kd.R_alloc | apply Kd.R_drewN | apply Kd.R_drew)); exact HO_5.out) hg hat); have n1_ := Aside0.mk (hb); have n2_ := Aside0.mk ((show Kd.C (Kd.int .u64) w40 Ao35 y193.length y193 from by rw [Ny193.out]; exact Kd.C_take (m := (x8_3 : Int).toNat) ((Kd.R_reads' (Kd.R_after (ok := (fun _ => True)) (by (with_reducible repeat (first | apply Kd.R_alloc | apply Kd.R_drewN | apply Kd.R_drew)); exact HO_5.out) hg hat)).2.2) KL36.out)); have n3_ := Aside0.mk ((show Kd.C (Kd.int .u64) w40 A39 y203.length y203 from by rw [Ny203.out, KA39.out]; exact Kd.C_drop (m := (x8_3 : Int).toNat) (c := co35) ((Kd.R_reads' (Kd.R_after (ok := (fun _ => True)) (by (with_reducible repeat (first | apply Kd.R_alloc | apply Kd.R_drewN | apply Kd.R_drew)); exact HO_5.out) hg hat)).2.2) KL39.out ((Kd.R_reads' (Kd.R_after (ok := (fun _ => True)) (by (with_reducible repeat (first | apply Kd.R_alloc | apply Kd.R_drewN | apply Kd.R_drew)); exact HO_5.out) hg hat)).2.1))); have n4_ := Aside0.mk (ho); clear HO_5; clear HB; clear HR196; clear HR206; clear HO202; have HO_5 := n0_; have HB := n1_; have HR196 := n2_; have HR206 := n3_; have HO209 := n4_; clear n0_ n1_ n2_ n3_ n4_; clear ho hb hg hat))
                                  go_roundg k3
                                  case measure => have := HK1.out; have := HJ2.out; have := HK3.out; omega
                                  case rel => exact ⟨(y207), (wrap64 (x6_1 + 1)), (by first | rfl | (simp; done) | (simp [*]; done)), H', ⟨by have := HK1.out; have := HJ2.out; have := HK3.out; omega⟩, ⟨by (with_reducible repeat (first | apply Kd.R_alloc | apply Kd.R_drewN | apply Kd.R_drew)); exact Kd.R_mono HO209.out (fun _ hk => trivial)⟩, ⟨by repeat (first | (with_reducible first | exact HB.out | apply below_alloc | apply pw_below_drewN | apply below_drew1) | exact HB.out)⟩⟩
                                · rw [if_neg c34] at H
                                  exact absurd H (by simp)
                              · rw [if_neg c31] at H
                                exact absurd H (by simp)
                            · rw [if_neg c30] at H
                              exact absurd H (by simp)
                          · rw [if_neg c29] at H
                            exact absurd H (by simp)
                        · rw [if_neg c28] at H
                          exact absurd H (by simp)
              · rw [if_neg c7] at H
                exact absurd H (by simp)
            · rw [if_neg c6] at H
              exact absurd H (by simp)
          · replace c5 := Bool.eq_false_iff.mpr c5
            subst c5
            have H1 : (some x5_1) = some r := by rw [if_neg (show ¬ (false = true) by decide)] at H; exact H
            clear H
            have H := H1
            clear H1
            obtain rfl := Option.some.inj H
            go_wp2
            go_ret
            exact ⟨_, by first | rfl | (simp [errW_none, errW_some] <;> rfl) | (simp [*, errW_none, errW_some] <;> rfl), by (with_reducible repeat (first | apply Kd.R_alloc | apply Kd.R_drewN | apply Kd.R_drew)); exact HO_5.out, by repeat (first | (with_reducible first | exact HB.out | apply below_alloc | apply pw_below_drewN | apply below_drew1) | exact HB.out)⟩

-- NOT PRINTED: function 4 (massiflaw04_CoverFresh)

end Go.Proofs.Ytkefjoljokfieaa.PCoverFresh
