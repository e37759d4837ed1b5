/- Written by a program of this session over the translation: functions, their walks, rows. No condition beyond those that each theorem names. -/
import Derived.Test.YtbfmdcccnneanaaPWireBackx0
import Derived.Test.YtbfmdcccnneanaaPWireBackx1
import Derived.Test.YtbfmdcccnneanaaPWireBackx2
namespace Go.Proofs.Ytbfmdcccnneanaa.PWireBack
open Go.RowKit Go.Proofs.YtbfmdcccnneanaaW.PrintWords Go.Proofs.YtbfmdcccnneanaaW.PrintLast Go.Proofs.YtbfmdcccnneanaaW.PrintMore
attribute [local go_sem] max2_int min2_int max_two min_two max_three min_three max_four min_four   -- for this text's walks alone
set_option linter.unusedVariables false
set_option linter.unusedSimpArgs false

/-! ### massiflaw06_WireBack: function 7 -/
mutual
def massiflaw06_WireBack.l0 : Nat → List Int → ByteArray → ByteArray → Int → Option (Bool)
  | 0, _, _, _, _ => none
  | k + 1, x0, x1, x5, x6 => if x6 < (x0.length : Int) then (if 0 ≤ x6 then ((wire_Number.f k (rd x0 x6)).bind fun t155 => (if x5.size + t155.size ≤ 9223372036854775807 then (massiflaw06_WireBack.l0 k x0 x1 (x5 ++ t155) (wrap64 (x6 + 1))) else (none))) else (none)) else (if x5.size + x1.size ≤ 9223372036854775807 then ((wire_NewReader.f (x5 ++ x1)).bind fun bt156 => (massiflaw06_WireBack.l1 k x0 x1 0 bt156.1 bt156.2)) else (none))
def massiflaw06_WireBack.l1 : Nat → List Int → ByteArray → Int → ByteArray → Int → Option (Bool)
  | 0, _, _, _, _, _ => none
  | k + 1, x0, x1, x8, x159000, x159001 => if x8 < (x0.length : Int) then ((wire_Reader_Number.f k x159000 x159001).bind fun bt159 => (if 0 ≤ x8 then (if bt159.1 = (rd x0 x8) then (if bt159.2.1 = 0 then (massiflaw06_WireBack.l1 k x0 x1 (wrap64 (x8 + 1)) bt159.2.2.1 bt159.2.2.2) else (some false)) else (some false)) else (none))) else ((wire_Reader_Left.f x159000 x159001).bind fun bt164 => (if bt164.1 = (x1.size : Int) then ((wire_Reader_Number.f k bt164.2.1 bt164.2.2).bind fun bt167 => (if bt167.2.1 = 0 then ((wire_Reader_Left.f bt167.2.2.1 bt167.2.2.2).bind fun bt171 => (if (wrap64 ((x1.size : Int) - bt171.1)) ≥ 1 then (if (wrap64 ((x1.size : Int) - bt171.1)) ≤ 10 then (if 0 ≤ (wrap64 ((x1.size : Int) - bt171.1)) then (if (wrap64 ((x1.size : Int) - bt171.1)) ≤ (x1.size : Int) then ((wire_Number.f k bt167.1).bind fun t174 => (some ((x1.extract 0 ((wrap64 ((x1.size : Int) - bt171.1)) : Int).toNat).toList == t174.toList))) else (none)) else (none)) else (some false)) else (some false))) else (if bt167.1 = 0 then ((wire_Reader_Left.f bt167.2.2.1 bt167.2.2.2).bind fun bt175 => (if bt175.1 = 0 then (if bt167.2.1 = 60 then (some true) else (some (bt167.2.1 == 61))) else (some false))) else (some false)))) else (some false)))
end
def massiflaw06_WireBack.f (k : Nat) (l0 : List Int) (a1 : ByteArray) : Option (Bool) := (massiflaw06_fixed.f k).bind fun t153 => (if t153 = true then (massiflaw06_WireBack.l0 k l0 a1 (⟨#[]⟩ : ByteArray) 0) else (some false))
theorem massiflaw06_WireBack.mono_l : ∀ k, (∀ y0 y1 y2 y3, LeO (massiflaw06_WireBack.l0 k y0 y1 y2 y3) (massiflaw06_WireBack.l0 (k + 1) y0 y1 y2 y3)) ∧ (∀ y0 y1 y2 y3 y4, LeO (massiflaw06_WireBack.l1 k y0 y1 y2 y3 y4) (massiflaw06_WireBack.l1 (k + 1) y0 y1 y2 y3 y4))
  | 0 => ⟨fun _ _ _ _ r h => by simp [massiflaw06_WireBack.l0] at h, fun _ _ _ _ _ r h => by simp [massiflaw06_WireBack.l1] at h⟩
  | k + 1 => by
    obtain ⟨ih0, ih1⟩ := massiflaw06_WireBack.mono_l k
    refine ⟨?_, ?_⟩
    · intro y0 y1 y2 y3
      unfold massiflaw06_WireBack.l0
      repeat' first
      | (with_reducible exact ih0 _ _ _ _)
      | (with_reducible exact ih1 _ _ _ _ _)
      | (with_reducible exact massiflaw06_fixed.mono _)
      | (with_reducible exact wire_Number.mono _ _)
      | (with_reducible exact wire_Reader_Number.mono _ _ _)
      | (with_reducible exact LeO.refl _)
      | (with_reducible exact LeO.none _)
      | (with_reducible refine LeO.ite ?_ ?_)
      | (with_reducible refine LeO.bind ?_ (fun _ => ?_))
      | exact ih0 _ _ _ _
      | exact ih1 _ _ _ _ _
      | exact massiflaw06_fixed.mono _
      | exact wire_Number.mono _ _
      | exact wire_Reader_Number.mono _ _ _
      | exact LeO.none _
      | refine LeO.ite ?_ ?_
      | refine LeO.bind ?_ (fun _ => ?_)
    · intro y0 y1 y2 y3 y4
      unfold massiflaw06_WireBack.l1
      repeat' first
      | (with_reducible exact ih0 _ _ _ _)
      | (with_reducible exact ih1 _ _ _ _ _)
      | (with_reducible exact massiflaw06_fixed.mono _)
      | (with_reducible exact wire_Number.mono _ _)
      | (with_reducible exact wire_Reader_Number.mono _ _ _)
      | (with_reducible exact LeO.refl _)
      | (with_reducible exact LeO.none _)
      | (with_reducible refine LeO.ite ?_ ?_)
      | (with_reducible refine LeO.bind ?_ (fun _ => ?_))
      | exact ih0 _ _ _ _
      | exact ih1 _ _ _ _ _
      | exact massiflaw06_fixed.mono _
      | exact wire_Number.mono _ _
      | exact wire_Reader_Number.mono _ _ _
      | exact LeO.none _
      | refine LeO.ite ?_ ?_
      | refine LeO.bind ?_ (fun _ => ?_)
theorem massiflaw06_WireBack.mono : ∀ a0 a1 k, LeO (massiflaw06_WireBack.f k a0 a1) (massiflaw06_WireBack.f (k + 1) a0 a1) := by
  intro a0 a1 k
  obtain ⟨ih0, ih1⟩ := massiflaw06_WireBack.mono_l k
  unfold massiflaw06_WireBack.f
  repeat' first
      | (with_reducible exact ih0 _ _ _ _)
      | (with_reducible exact ih1 _ _ _ _ _)
      | (with_reducible exact massiflaw06_fixed.mono _)
      | (with_reducible exact wire_Number.mono _ _)
      | (with_reducible exact wire_Reader_Number.mono _ _ _)
      | (with_reducible exact LeO.refl _)
      | (with_reducible exact LeO.none _)
      | (with_reducible refine LeO.ite ?_ ?_)
      | (with_reducible refine LeO.bind ?_ (fun _ => ?_))
      | exact ih0 _ _ _ _
      | exact ih1 _ _ _ _ _
      | exact massiflaw06_fixed.mono _
      | exact wire_Number.mono _ _
      | exact wire_Reader_Number.mono _ _ _
      | exact LeO.none _
      | refine LeO.ite ?_ ?_
      | refine LeO.bind ?_ (fun _ => ?_)
def massiflaw06_WireBack.T23 : Bool × List (List Nat × List Nat) := (true, [([], []), ([0], [0]), ([1], [1]), ([2], [2]), ([3, 2], [2, 3]), ([2, 4], [2, 4]), ([5, 2], [5]), ([6], [6]), ([6], [6]), ([7, 8, 6], [6, 7, 8]), ([6], [6]), ([10, 6, 6], [6, 10]), ([9, 11, 6], [6, 9, 11]), ([6, 12], [6, 12]), ([13, 11, 0, 1, 2, 3, 4, 5, 6, 7, 8, 9, 10, 11, 12, 13], [13])])
def massiflaw06_WireBack.B23 : List Nat := [0, 1, 3, 7, 15, 31, 63, 127, 127, 511, 127, 1151, 4095, 8191, 16383]
theorem massiflaw06_WireBack.tab23 : rtab .any (opsOf Try.f7 23) = massiflaw06_WireBack.T23 := by kernel_rfl
theorem massiflaw06_WireBack.bits23 : waitsOk massiflaw06_WireBack.T23.2 massiflaw06_WireBack.B23 = true := by kernel_rfl
set_option maxHeartbeats 8000000 in
set_option maxRecDepth 100000 in
theorem massiflaw06_WireBack.calls (k : Nat) (A0 : Option Addr) (c0 : Nat) (l0 : List Int) (a1 : ByteArray) (r : Bool) (w : World) (hr0 : Kd.C (Kd.int .u64) w A0 l0.length l0) (hc0 : l0.length ≤ c0) (h : massiflaw06_WireBack.f k l0 a1 = some r) :
    Calls Try.prog 7 #[.slice A0 l0.length c0, .string a1] w fun e w' => e = .returned (.bool r) ∧ Below w.heap.size w w' := by
  have HR0 := Aside0.mk hr0
  have HC0 := Aside0.mk hc0
  clear hr0 hc0
  have HB := Aside0.mk (Below.refl w.heap.size w)
  have H : ((massiflaw06_fixed.f k).bind fun t153 => (if t153 = true then (massiflaw06_WireBack.l0 k l0 a1 (⟨#[]⟩ : ByteArray) 0) else (some false))) = some r := h
  clear h
  replace H := Option.bind_eq_some_iff.mp H
  obtain ⟨t153, A30, H⟩ := H
  replace H : (if t153 = true then (massiflaw06_WireBack.l0 k l0 a1 (⟨#[]⟩ : ByteArray) 0) else (some false)) = some r := H
  have A3 := Aside0.mk A30
  clear A30
  by_cases c4 : t153 = true
  · subst c4
    have H1 : (massiflaw06_WireBack.l0 k l0 a1 (⟨#[]⟩ : ByteArray) 0) = some r := by rw [if_pos rfl] at H; exact H
    clear H
    have H := H1
    clear H1
    have H' := Aside0.mk H
    clear H
    go_enter Try.func7, Try.ntmps7
    go_wp2_with (first | ((with_reducible refine gate_callee (f := 23) rfl ?_); refine goesL_ (some 14) rfl rfl Try.func23 (by kernel_rfl) rfl #[] rfl (by (try simp only [List.map_toArray, List.map_cons, List.map_nil]); first | done | rfl | (simp only [List.length_drop, List.length_take]; rfl)) ?_; (with_reducible refine (massiflaw06_fixed.calls k  true _ A3.out).mono ?_); rintro e w5 ⟨rfl, hb⟩; refine ⟨_, rfl, ?_⟩; have n0_ := Aside0.mk (below_step (by repeat (first | (with_reducible first | exact HB.out | apply below_alloc | apply pw_below_drewN | apply below_drew1) | exact HB.out)) hb); clear HB; have HB := n0_; clear n0_; (try clear hb); (try clear hb2); (try clear hk); (try clear hi)))
    go_loopg [5, 6] k (fun kq v5 v6 w' => ∃ (x5_1 : ByteArray) (x6_1 : Int), v5 = .string x5_1 ∧ v6 = .int .i64 x6_1 ∧ Aside0 (massiflaw06_WireBack.l0 kq l0 a1 x5_1 x6_1 = some r) ∧ Aside0 (kq ≤ k) ∧ Aside0 (Below w.heap.size w w'))
    case atStart => exact ⟨((⟨#[]⟩ : ByteArray)), (0), (by first | rfl | (simp; done) | (simp [*]; done)), (by first | rfl | (simp; done) | (simp [*]; done)), H', ⟨Nat.le_refl _⟩, ⟨by repeat (first | (with_reducible first | exact HB.out | apply below_alloc | apply pw_below_drewN | apply below_drew1) | exact HB.out)⟩⟩
    case round =>
      clear H'
      try clear c2
      try clear p2
      try clear c4
      obtain ⟨x5_1, x6_1, rfl, rfl, HA, HK1, HB⟩ := hrel
      cases gk with
      | zero => exact absurd HA.out (by simp [massiflaw06_WireBack.l0])
      | succ k1 =>
        have H := HA.out
        clear HA
        simp only [massiflaw06_WireBack.l0] at H
        by_cases c6 : x6_1 < (l0.length : Int)
        · rw [if_pos c6] at H
          have c6b0 : decide (x6_1 < (l0.length : Int)) = true := decide_eq_true c6
          clear c6
          by_cases c7 : 0 ≤ x6_1
          · rw [if_pos c7] at H
            have c7b0 : decide (0 ≤ x6_1) = true := decide_eq_true c7
            clear c7
            replace H := Option.bind_eq_some_iff.mp H
            obtain ⟨t155, A80, H⟩ := H
            replace H : (if x5_1.size + t155.size ≤ 9223372036854775807 then (massiflaw06_WireBack.l0 k1 l0 a1 (x5_1 ++ t155) (wrap64 (x6_1 + 1))) else (none)) = some r := H
            have A8 := Aside0.mk A80
            clear A80
            by_cases c9 : x5_1.size + t155.size ≤ 9223372036854775807
            · rw [if_pos c9] at H
              have c9b0 := eq_true c9
              have c9b1 : decide (x5_1.size + t155.size ≤ 9223372036854775807) = true := decide_eq_true c9
              try have c9b2 : (9223372036854775807 < x5_1.size + t155.size) = False := eq_false (Nat.not_lt.2 c9)
              have H' := Aside0.mk H
              clear H
              have p154 : 0 ≤ (x6_1 : Int) := of_decide_eq_true (by first | (with_reducible assumption) | assumption)
              have q154 : x6_1 < (l0.length : Int) := of_decide_eq_true (by first | (with_reducible assumption) | assumption)
              obtain ⟨ad154, e154, hx154_0⟩ := Kd.at_int HR0.out x6_1 p154 q154
              cases e154
              replace hx154_0 := (HB.out.cell (World.block_lt_of_cell? w _ hx154_0)).trans hx154_0
              replace p154 := eq_true p154
              replace q154 := eq_true q154
              go_wp2_with (first | ((with_reducible refine gate_callee (f := 24) rfl ?_); refine goesL_ (some 27) rfl rfl Try.func24 (by kernel_rfl) rfl #[.int .u64 (rd l0 x6_1)] rfl (by (try simp only [List.map_toArray, List.map_cons, List.map_nil]); first | done | rfl | (simp only [List.length_drop, List.length_take]; rfl)) ?_; (with_reducible refine (wire_Number.calls k1 (rd l0 x6_1) t155 _ A8.out).mono ?_); rintro e w10 ⟨rfl, hb⟩; refine ⟨_, rfl, ?_⟩; have n0_ := Aside0.mk (below_step (by repeat (first | (with_reducible first | exact HB.out | apply below_alloc | apply pw_below_drewN | apply below_drew1) | exact HB.out)) hb); clear HB; have HB := n0_; clear n0_; (try clear hb); (try clear hb2); (try clear hk); (try clear hi)))
              go_roundg k1
              case measure => have := HK1.out; omega
              case rel => exact ⟨(x5_1 ++ t155), (wrap64 (x6_1 + 1)), (by first | rfl | (simp; done) | (simp [*]; done)), (by first | rfl | (simp; done) | (simp [*]; done)), H', ⟨by have := HK1.out; omega⟩, ⟨by repeat (first | (with_reducible first | exact HB.out | apply below_alloc | apply pw_below_drewN | apply below_drew1) | exact HB.out)⟩⟩
            · rw [if_neg c9] at H
              exact absurd H (by simp)
          · rw [if_neg c7] at H
            exact absurd H (by simp)
        · rw [if_neg c6] at H
          have c6b0 : decide (x6_1 < (l0.length : Int)) = false := decide_eq_false c6
          clear c6
          by_cases c11 : x5_1.size + a1.size ≤ 9223372036854775807
          · rw [if_pos c11] at H
            have c11b0 := eq_true c11
            have c11b1 : decide (x5_1.size + a1.size ≤ 9223372036854775807) = true := decide_eq_true c11
            try have c11b2 : (9223372036854775807 < x5_1.size + a1.size) = False := eq_false (Nat.not_lt.2 c11)
            replace H := Option.bind_eq_some_iff.mp H
            obtain ⟨⟨t156, t157⟩, A120, H⟩ := H
            replace H : (massiflaw06_WireBack.l1 k1 l0 a1 0 t156 t157) = some r := H
            have A12 := Aside0.mk A120
            clear A120
            have H' := Aside0.mk H
            clear H
            go_wp2_with (first | ((with_reducible refine gate_callee (f := 26) rfl ?_); refine goesL_ (some 32) rfl rfl Try.func26 (by kernel_rfl) rfl #[.string (x5_1 ++ a1)] rfl (by (try simp only [List.map_toArray, List.map_cons, List.map_nil]); first | done | rfl | (simp only [List.length_drop, List.length_take]; rfl)) ?_; (with_reducible refine (wire_NewReader.calls (x5_1 ++ a1) t156 t157 w _ ?side1 A12.out).mono ?_); (case side1 => repeat (first | (with_reducible first | exact HB.out | apply below_alloc | apply pw_below_drewN | apply below_drew1) | exact HB.out)); rintro e w13 ⟨g158, rfl, hi, hb, hb2⟩; refine ⟨_, rfl, ?_⟩; have n0_ := Aside0.mk (hb); have n1_ := Aside0.mk (hi); clear HB; have HB := n0_; have HI158 := n1_; clear n0_ n1_; (try clear hb); (try clear hb2); (try clear hk); (try clear hi)))
            go_loopg [8] k1 (fun kq v8 w' => ∃ (x8_2 : Int) (x159000_2 : ByteArray) (x159001_2 : Int), v8 = .int .i64 x8_2 ∧ Aside0 (massiflaw06_WireBack.l1 kq l0 a1 x8_2 x159000_2 x159001_2 = some r) ∧ Aside0 (kq ≤ k1) ∧ Aside0 (IsS57 w w' g158 x159000_2 x159001_2) ∧ Aside0 (Below w.heap.size w w'))
            case atStart => exact ⟨(0), (t156), (t157), (by first | rfl | (simp; done) | (simp [*]; done)), H', ⟨Nat.le_refl _⟩, ⟨by repeat (first | (with_reducible first | exact HI158.out | apply IsS57.alloc | apply IsS57.drewN | apply IsS57.drew | apply IsS57.set_0 | apply IsS57.set_1) | exact HI158.out)⟩, ⟨by repeat (first | (with_reducible first | exact HB.out | apply below_alloc | apply pw_below_drewN | apply below_drew1 | refine below_set ?_ (IsS57.ge HI158.out)) | exact HB.out)⟩⟩
            case round =>
              clear H'
              try clear c1
              try clear p1
              try clear q1
              try clear hx1
              try clear c2
              try clear p2
              try clear c4
              try clear c6
              try clear c6b0
              try clear p6
              try clear c7
              try clear c7b0
              try clear c9
              try clear c9b0
              try clear c9b1
              try clear c9b2
              try clear c11
              try clear c11b0
              try clear c11b1
              try clear c11b2
              try clear hx154_0
              try clear p154
              try clear p2
              try clear q154
              obtain ⟨x8_2, x159000_2, x159001_2, rfl, HA, HK2, HI158, HB⟩ := hrel
              cases gk with
              | zero => exact absurd HA.out (by simp [massiflaw06_WireBack.l1])
              | succ k2 =>
                have H := HA.out
                clear HA
                simp only [massiflaw06_WireBack.l1] at H
                by_cases c14 : x8_2 < (l0.length : Int)
                · rw [if_pos c14] at H
                  have c14b0 : decide (x8_2 < (l0.length : Int)) = true := decide_eq_true c14
                  clear c14
                  replace H := Option.bind_eq_some_iff.mp H
                  obtain ⟨⟨t159, t160, t161, t162⟩, A150, H⟩ := H
                  replace H : (if 0 ≤ x8_2 then (if t159 = (rd l0 x8_2) then (if t160 = 0 then (massiflaw06_WireBack.l1 k2 l0 a1 (wrap64 (x8_2 + 1)) t161 t162) else (some false)) else (some false)) else (none)) = some r := H
                  have A15 := Aside0.mk A150
                  clear A150
                  by_cases c16 : 0 ≤ x8_2
                  · rw [if_pos c16] at H
                    have c16b0 : decide (0 ≤ x8_2) = true := decide_eq_true c16
                    clear c16
                    by_cases c17 : t159 = (rd l0 x8_2)
                    · rw [if_pos c17] at H
                      have c17b0 : (t159 == (rd l0 x8_2)) = true := beq_iff_eq.mpr c17
                      have c17b1 : (t159 != (rd l0 x8_2)) = false := bne_eq_false_iff_eq.mpr c17
                      clear c17
                      by_cases c18 : t160 = 0
                      · rw [if_pos c18] at H
                        have c18b0 : (t160 == 0) = true := beq_iff_eq.mpr c18
                        have c18b1 : (t160 != 0) = false := bne_eq_false_iff_eq.mpr c18
                        clear c18
                        have H' := Aside0.mk H
                        clear H
                        go_wp2_with (first | ((with_reducible refine gate_callee (f := 27) rfl ?_); refine goesL_ (some 43) rfl rfl Try.func27 (by kernel_rfl) rfl #[.pointer (some ⟨g158, 0, none⟩)] rfl (by (try simp only [List.map_toArray, List.map_cons, List.map_nil]); first | done | rfl | (simp only [List.length_drop, List.length_take]; rfl)) ?_; (with_reducible refine (wire_Reader_Number.calls k2 g158 x159000_2 x159001_2 t159 t160 t161 t162 w _ ?side1 ?side2 A15.out).mono ?_); (case side1 => repeat (first | (with_reducible first | exact HI158.out | apply IsS57.alloc | apply IsS57.drewN | apply IsS57.drew | apply IsS57.set_0 | apply IsS57.set_1) | exact HI158.out)); (case side2 => repeat (first | (with_reducible first | exact HB.out | apply below_alloc | apply pw_below_drewN | apply below_drew1 | refine below_set ?_ (IsS57.ge HI158.out)) | exact HB.out)); rintro e w19 ⟨rfl, hi, hb, hk⟩; refine ⟨_, rfl, ?_⟩; have n0_ := Aside0.mk (hb); have n1_ := Aside0.mk (hi); clear HB; clear HI158; have HB := n0_; have HI158 := n1_; clear n0_ n1_; (try clear hb); (try clear hb2); (try clear hk); (try clear hi); have p163 : 0 ≤ (x8_2 : Int) := of_decide_eq_true (by first | (with_reducible assumption) | assumption); have q163 : x8_2 < (l0.length : Int) := of_decide_eq_true (by first | (with_reducible assumption) | assumption); obtain ⟨ad163, e163, hx163_0⟩ := Kd.at_int HR0.out x8_2 p163 q163; cases e163; replace hx163_0 := (HB.out.cell (World.block_lt_of_cell? w _ hx163_0)).trans hx163_0; replace p163 := eq_true p163; replace q163 := eq_true q163))
                        go_roundg k2
                        case measure => have := HK1.out; have := HK2.out; omega
                        case rel => exact ⟨(wrap64 (x8_2 + 1)), (t161), (t162), (by first | rfl | (simp; done) | (simp [*]; done)), H', ⟨by have := HK1.out; have := HK2.out; omega⟩, ⟨by repeat (first | (with_reducible first | exact HI158.out | apply IsS57.alloc | apply IsS57.drewN | apply IsS57.drew | apply IsS57.set_0 | apply IsS57.set_1) | exact HI158.out)⟩, ⟨by repeat (first | (with_reducible first | exact HB.out | apply below_alloc | apply pw_below_drewN | apply below_drew1 | refine below_set ?_ (IsS57.ge HI158.out)) | exact HB.out)⟩⟩
                      · rw [if_neg c18] at H
                        have c18b0 : (t160 == 0) = false := beq_eq_false_iff_ne.mpr c18
                        have c18b1 : (t160 != 0) = true := bne_iff_ne.mpr c18
                        obtain rfl := Option.some.inj H
                        go_wp2_with (first | ((with_reducible refine gate_callee (f := 27) rfl ?_); refine goesL_ (some 43) rfl rfl Try.func27 (by kernel_rfl) rfl #[.pointer (some ⟨g158, 0, none⟩)] rfl (by (try simp only [List.map_toArray, List.map_cons, List.map_nil]); first | done | rfl | (simp only [List.length_drop, List.length_take]; rfl)) ?_; (with_reducible refine (wire_Reader_Number.calls k2 g158 x159000_2 x159001_2 t159 t160 t161 t162 w _ ?side1 ?side2 A15.out).mono ?_); (case side1 => repeat (first | (with_reducible first | exact HI158.out | apply IsS57.alloc | apply IsS57.drewN | apply IsS57.drew | apply IsS57.set_0 | apply IsS57.set_1) | exact HI158.out)); (case side2 => repeat (first | (with_reducible first | exact HB.out | apply below_alloc | apply pw_below_drewN | apply below_drew1 | refine below_set ?_ (IsS57.ge HI158.out)) | exact HB.out)); rintro e w20 ⟨rfl, hi, hb, hk⟩; refine ⟨_, rfl, ?_⟩; have n0_ := Aside0.mk (hb); have n1_ := Aside0.mk (hi); clear HB; clear HI158; have HB := n0_; have HI158 := n1_; clear n0_ n1_; (try clear hb); (try clear hb2); (try clear hk); (try clear hi); have p163 : 0 ≤ (x8_2 : Int) := of_decide_eq_true (by first | (with_reducible assumption) | assumption); have q163 : x8_2 < (l0.length : Int) := of_decide_eq_true (by first | (with_reducible assumption) | assumption); obtain ⟨ad163, e163, hx163_0⟩ := Kd.at_int HR0.out x8_2 p163 q163; cases e163; replace hx163_0 := (HB.out.cell (World.block_lt_of_cell? w _ hx163_0)).trans hx163_0; replace p163 := eq_true p163; replace q163 := eq_true q163))
                        go_ret
                        exact ⟨by first | rfl | (simp [errW_none, errW_some] <;> rfl) | (simp [*, errW_none, errW_some] <;> rfl), by repeat (first | (with_reducible first | exact HB.out | apply below_alloc | apply pw_below_drewN | apply below_drew1 | refine below_set ?_ (IsS57.ge HI158.out)) | exact HB.out)⟩
                    · rw [if_neg c17] at H
                      have c17b0 : (t159 == (rd l0 x8_2)) = false := beq_eq_false_iff_ne.mpr c17
                      have c17b1 : (t159 != (rd l0 x8_2)) = true := bne_iff_ne.mpr c17
                      obtain rfl := Option.some.inj H
                      go_wp2_with (first | ((with_reducible refine gate_callee (f := 27) rfl ?_); refine goesL_ (some 43) rfl rfl Try.func27 (by kernel_rfl) rfl #[.pointer (some ⟨g158, 0, none⟩)] rfl (by (try simp only [List.map_toArray, List.map_cons, List.map_nil]); first | done | rfl | (simp only [List.length_drop, List.length_take]; rfl)) ?_; (with_reducible refine (wire_Reader_Number.calls k2 g158 x159000_2 x159001_2 t159 t160 t161 t162 w _ ?side1 ?side2 A15.out).mono ?_); (case side1 => repeat (first | (with_reducible first | exact HI158.out | apply IsS57.alloc | apply IsS57.drewN | apply IsS57.drew | apply IsS57.set_0 | apply IsS57.set_1) | exact HI158.out)); (case side2 => repeat (first | (with_reducible first | exact HB.out | apply below_alloc | apply pw_below_drewN | apply below_drew1 | refine below_set ?_ (IsS57.ge HI158.out)) | exact HB.out)); rintro e w21 ⟨rfl, hi, hb, hk⟩; refine ⟨_, rfl, ?_⟩; have n0_ := Aside0.mk (hb); have n1_ := Aside0.mk (hi); clear HB; clear HI158; have HB := n0_; have HI158 := n1_; clear n0_ n1_; (try clear hb); (try clear hb2); (try clear hk); (try clear hi); have p163 : 0 ≤ (x8_2 : Int) := of_decide_eq_true (by first | (with_reducible assumption) | assumption); have q163 : x8_2 < (l0.length : Int) := of_decide_eq_true (by first | (with_reducible assumption) | assumption); obtain ⟨ad163, e163, hx163_0⟩ := Kd.at_int HR0.out x8_2 p163 q163; cases e163; replace hx163_0 := (HB.out.cell (World.block_lt_of_cell? w _ hx163_0)).trans hx163_0; replace p163 := eq_true p163; replace q163 := eq_true q163))
                      go_ret
                      exact ⟨by first | rfl | (simp [errW_none, errW_some] <;> rfl) | (simp [*, errW_none, errW_some] <;> rfl), by repeat (first | (with_reducible first | exact HB.out | apply below_alloc | apply pw_below_drewN | apply below_drew1 | refine below_set ?_ (IsS57.ge HI158.out)) | exact HB.out)⟩
                  · rw [if_neg c16] at H
                    exact absurd H (by simp)
                · rw [if_neg c14] at H
                  have c14b0 : decide (x8_2 < (l0.length : Int)) = false := decide_eq_false c14
                  clear c14
                  replace H := Option.bind_eq_some_iff.mp H
                  obtain ⟨⟨t164, t165, t166⟩, A220, H⟩ := H
                  replace H : (if t164 = (a1.size : Int) then ((wire_Reader_Number.f k2 t165 t166).bind fun bt167 => (if bt167.2.1 = 0 then ((wire_Reader_Left.f bt167.2.2.1 bt167.2.2.2).bind fun bt171 => (if (wrap64 ((a1.size : Int) - bt171.1)) ≥ 1 then (if (wrap64 ((a1.size : Int) - bt171.1)) ≤ 10 then (if 0 ≤ (wrap64 ((a1.size : Int) - bt171.1)) then (if (wrap64 ((a1.size : Int) - bt171.1)) ≤ (a1.size : Int) then ((wire_Number.f k2 bt167.1).bind fun t174 => (some ((a1.extract 0 ((wrap64 ((a1.size : Int) - bt171.1)) : Int).toNat).toList == t174.toList))) else (none)) else (none)) else (some false)) else (some false))) else (if bt167.1 = 0 then ((wire_Reader_Left.f bt167.2.2.1 bt167.2.2.2).bind fun bt175 => (if bt175.1 = 0 then (if bt167.2.1 = 60 then (some true) else (some (bt167.2.1 == 61))) else (some false))) else (some false)))) else (some false)) = some r := H
                  have A22 := Aside0.mk A220
                  clear A220
                  by_cases c23 : t164 = (a1.size : Int)
                  · rw [if_pos c23] at H
                    have c23b0 : (t164 == (a1.size : Int)) = true := beq_iff_eq.mpr c23
                    have c23b1 : (t164 != (a1.size : Int)) = false := bne_eq_false_iff_eq.mpr c23
                    clear c23
                    replace H := Option.bind_eq_some_iff.mp H
                    obtain ⟨⟨t167, t168, t169, t170⟩, A240, H⟩ := H
                    replace H : (if t168 = 0 then ((wire_Reader_Left.f t169 t170).bind fun bt171 => (if (wrap64 ((a1.size : Int) - bt171.1)) ≥ 1 then (if (wrap64 ((a1.size : Int) - bt171.1)) ≤ 10 then (if 0 ≤ (wrap64 ((a1.size : Int) - bt171.1)) then (if (wrap64 ((a1.size : Int) - bt171.1)) ≤ (a1.size : Int) then ((wire_Number.f k2 t167).bind fun t174 => (some ((a1.extract 0 ((wrap64 ((a1.size : Int) - bt171.1)) : Int).toNat).toList == t174.toList))) else (none)) else (none)) else (some false)) else (some false))) else (if t167 = 0 then ((wire_Reader_Left.f t169 t170).bind fun bt175 => (if bt175.1 = 0 then (if t168 = 60 then (some true) else (some (t168 == 61))) else (some false))) else (some false))) = some r := H
                    have A24 := Aside0.mk A240
                    clear A240
                    by_cases c25 : t168 = 0
                    · rw [if_pos c25] at H
                      have c25b0 : (t168 == 0) = true := beq_iff_eq.mpr c25
                      have c25b1 : (t168 != 0) = false := bne_eq_false_iff_eq.mpr c25
                      clear c25
                      replace H := Option.bind_eq_some_iff.mp H
                      obtain ⟨⟨t171, t172, t173⟩, A260, H⟩ := H
                      replace H : (if (wrap64 ((a1.size : Int) - t171)) ≥ 1 then (if (wrap64 ((a1.size : Int) - t171)) ≤ 10 then (if 0 ≤ (wrap64 ((a1.size : Int) - t171)) then (if (wrap64 ((a1.size : Int) - t171)) ≤ (a1.size : Int) then ((wire_Number.f k2 t167).bind fun t174 => (some ((a1.extract 0 ((wrap64 ((a1.size : Int) - t171)) : Int).toNat).toList == t174.toList))) else (none)) else (none)) else (some false)) else (some false)) = some r := H
                      have A26 := Aside0.mk A260
                      clear A260
                      by_cases c27 : (wrap64 ((a1.size : Int) - t171)) ≥ 1
                      · rw [if_pos c27] at H
                        have c27b0 : decide (1 ≤ (wrap64 ((a1.size : Int) - t171))) = true := decide_eq_true c27
                        clear c27
                        by_cases c28 : (wrap64 ((a1.size : Int) - t171)) ≤ 10
                        · rw [if_pos c28] at H
                          have c28b0 : decide ((wrap64 ((a1.size : Int) - t171)) ≤ 10) = true := decide_eq_true c28
                          clear c28
                          obtain ⟨ji29, hji29⟩ : ∃ j_ : Int, (wrap64 ((a1.size : Int) - t171)) = j_ := ⟨_, rfl⟩
                          replace H : (if 0 ≤ (ji29) then (if (ji29) ≤ (a1.size : Int) then ((wire_Number.f k2 t167).bind fun t174 => (some ((a1.extract 0 ((ji29) : Int).toNat).toList == t174.toList))) else (none)) else (none)) = some r := by first | (rw [hji29] at H; exact H) | (simp only [hji29] at H ⊢; exact H)
                          (try rw [hji29] at c27b0)
                          (try rw [hji29] at c28b0)
                          (try rw [hji29] at A22)
                          (try rw [hji29] at A24)
                          (try rw [hji29] at A26)
                          have hji29w : (IntKind.i64.wrap ((a1.size : Int) - t171)) = ji29 := (i64_w _).trans hji29
                          by_cases c30 : 0 ≤ (ji29)
                          · rw [if_pos c30] at H
                            have c30b0 := eq_true c30
                            have c30b1 : decide (0 ≤ (ji29)) = true := decide_eq_true c30
                            clear c30
                            by_cases c31 : (ji29) ≤ (a1.size : Int)
                            · rw [if_pos c31] at H
                              have c31b0 := eq_true c31
                              have c31b1 : decide ((ji29) ≤ (a1.size : Int)) = true := decide_eq_true c31
                              clear c31
                              replace H := Option.bind_eq_some_iff.mp H
                              obtain ⟨t174, A320, H⟩ := H
                              replace H : (some ((a1.extract 0 ((ji29) : Int).toNat).toList == t174.toList)) = some r := H
                              have A32 := Aside0.mk A320
                              clear A320
                              obtain rfl := Option.some.inj H
                              try go_wp2_with (first | ((with_reducible refine gate_callee (f := 31) rfl ?_); refine goesL_ (some 57) rfl rfl Try.func31 (by kernel_rfl) rfl #[.pointer (some ⟨g158, 0, none⟩)] rfl (by (try simp only [List.map_toArray, List.map_cons, List.map_nil]); first | done | rfl | (simp only [List.length_drop, List.length_take]; rfl)) ?_; (with_reducible refine (wire_Reader_Left.calls g158 x159000_2 x159001_2 t164 t165 t166 w _ ?side1 ?side2 A22.out).mono ?_); (case side1 => repeat (first | (with_reducible first | exact HI158.out | apply IsS57.alloc | apply IsS57.drewN | apply IsS57.drew | apply IsS57.set_0 | apply IsS57.set_1) | exact HI158.out)); (case side2 => repeat (first | (with_reducible first | exact HB.out | apply below_alloc | apply pw_below_drewN | apply below_drew1 | refine below_set ?_ (IsS57.ge HI158.out)) | exact HB.out)); rintro e w33 ⟨rfl, hi, hb, hk⟩; refine ⟨_, rfl, ?_⟩; have n0_ := Aside0.mk (hb); have n1_ := Aside0.mk (hi); clear HB; clear HI158; have HB := n0_; have HI158 := n1_; clear n0_ n1_; (try clear hb); (try clear hb2); (try clear hk); (try clear hi)) | ((with_reducible refine gate_callee (f := 27) rfl ?_); refine goesL_ (some 63) rfl rfl Try.func27 (by kernel_rfl) rfl #[.pointer (some ⟨g158, 0, none⟩)] rfl (by (try simp only [List.map_toArray, List.map_cons, List.map_nil]); first | done | rfl | (simp only [List.length_drop, List.length_take]; rfl)) ?_; (with_reducible refine (wire_Reader_Number.calls k2 g158 t165 t166 t167 t168 t169 t170 w _ ?side1 ?side2 A24.out).mono ?_); (case side1 => repeat (first | (with_reducible first | exact HI158.out | apply IsS57.alloc | apply IsS57.drewN | apply IsS57.drew | apply IsS57.set_0 | apply IsS57.set_1) | exact HI158.out)); (case side2 => repeat (first | (with_reducible first | exact HB.out | apply below_alloc | apply pw_below_drewN | apply below_drew1 | refine below_set ?_ (IsS57.ge HI158.out)) | exact HB.out)); rintro e w34 ⟨rfl, hi, hb, hk⟩; refine ⟨_, rfl, ?_⟩; have n0_ := Aside0.mk (hb); have n1_ := Aside0.mk (hi); clear HB; clear HI158; have HB := n0_; have HI158 := n1_; clear n0_ n1_; (try clear hb); (try clear hb2); (try clear hk); (try clear hi)) | ((with_reducible refine gate_callee (f := 31) rfl ?_); refine goesL_ (some 86) rfl rfl Try.func31 (by kernel_rfl) rfl #[.pointer (some ⟨g158, 0, none⟩)] rfl (by (try simp only [List.map_toArray, List.map_cons, List.map_nil]); first | done | rfl | (simp only [List.length_drop, List.length_take]; rfl)) ?_; (with_reducible refine (wire_Reader_Left.calls g158 t169 t170 t171 t172 t173 w _ ?side1 ?side2 A26.out).mono ?_); (case side1 => repeat (first | (with_reducible first | exact HI158.out | apply IsS57.alloc | apply IsS57.drewN | apply IsS57.drew | apply IsS57.set_0 | apply IsS57.set_1) | exact HI158.out)); (case side2 => repeat (first | (with_reducible first | exact HB.out | apply below_alloc | apply pw_below_drewN | apply below_drew1 | refine below_set ?_ (IsS57.ge HI158.out)) | exact HB.out)); rintro e w35 ⟨rfl, hi, hb, hk⟩; refine ⟨_, rfl, ?_⟩; have n0_ := Aside0.mk (hb); have n1_ := Aside0.mk (hi); clear HB; clear HI158; have HB := n0_; have HI158 := n1_; clear n0_ n1_; (try clear hb); (try clear hb2); (try clear hk); (try clear hi)))
                              have n0_ := Aside0.mk (IsS57.drew HI158.out)
                              have n1_ := Aside0.mk (below_drew1 HB.out)
                              clear HI158
                              clear HB
                              have HI158 := n0_
                              have HB := n1_
                              clear n0_ n1_
                              refine start_ (n := 15) (S := fun w' => True) (ds := []) #[false, false, false, false, false, false, false, false, false, false, false, false, false, false, false] (by kernel_rfl) rfl rfl trivial (fun hHeld => ?_); refine with_tabW massiflaw06_WireBack.tab23 massiflaw06_WireBack.bits23 (fun HT_ HW_ => ?_)
                              generalize w35.drew = w36 at HI158 HB hHeld ⊢
                              refine pure_ (i := 0) (N := some 88) (v := ?_) (a' := ?_) #[true, false, false, false, false, false, false, false, false, false, false, false, false, false, false] rfl rfl (any_of HT_.out (by kernel_rfl)) (fun _ _ _ h => h) (Or.inl ⟨by rfl, ?_⟩) ?_ ?_
                              rotate_left
                              · intro w'
                                go_simp
                                with_reducible rfl
                              rotate_left
                              · simp only [Act.put, List.setIfInBounds_toArray, List.set_cons_zero, List.set_cons_succ, i64_w, i32_w]
                                rfl
                              refine pure_ (i := 1) (N := some 89) (v := ?_) (a' := ?_) #[true, true, false, false, false, false, false, false, false, false, false, false, false, false, false] rfl rfl (any_of HT_.out (by kernel_rfl)) (fun _ _ _ h => h) (Or.inl ⟨by rfl, ?_⟩) ?_ ?_
                              rotate_left
                              · intro w'
                                go_simp
                                with_reducible rfl
                              rotate_left
                              · simp only [Act.put, List.setIfInBounds_toArray, List.set_cons_zero, List.set_cons_succ, i64_w, i32_w]
                                rfl
                              refine pure_ (i := 2) (N := some 90) (v := ?_) (a' := ?_) #[true, true, true, false, false, false, false, false, false, false, false, false, false, false, false] rfl rfl (any_of HT_.out (by kernel_rfl)) (fun _ _ _ h => h) (Or.inl ⟨by rfl, ?_⟩) ?_ ?_
                              rotate_left
                              · intro w'
                                go_simp
                                with_reducible rfl
                              rotate_left
                              · simp only [Act.put, List.setIfInBounds_toArray, List.set_cons_zero, List.set_cons_succ, i64_w, i32_w]
                                rfl
                              refine pure_ (i := 3) (N := some 91) (v := ?_) (a' := ?_) #[true, true, true, true, false, false, false, false, false, false, false, false, false, false, false] rfl rfl (any_of HT_.out (by kernel_rfl)) (fun _ _ _ h => h) (Or.inl ⟨by rfl, ?_⟩) ?_ ?_
                              rotate_left
                              · intro w'
                                go_simp
                                with_reducible rfl
                              rotate_left
                              · simp only [Act.put, List.setIfInBounds_toArray, List.set_cons_zero, List.set_cons_succ, i64_w, i32_w]
                                rfl
                              refine pure_ (i := 4) (N := some 92) (v := ?_) (a' := ?_) #[true, true, true, true, true, false, false, false, false, false, false, false, false, false, false] rfl rfl (any_of HT_.out (by kernel_rfl)) (fun _ _ _ h => h) (Or.inl ⟨by rfl, ?_⟩) ?_ ?_
                              rotate_left
                              · intro w'
                                go_simp
                                with_reducible rfl
                              rotate_left
                              · simp only [Act.put, List.setIfInBounds_toArray, List.set_cons_zero, List.set_cons_succ, i64_w, i32_w]
                                rfl
                              refine pure_ (i := 5) (N := some 93) (v := ?_) (a' := ?_) #[true, true, true, true, true, true, false, false, false, false, false, false, false, false, false] rfl rfl (any_of HT_.out (by kernel_rfl)) (fun _ _ _ h => h) (Or.inl ⟨by rfl, ?_⟩) ?_ ?_
                              rotate_left
                              · intro w'
                                go_simp
                                with_reducible rfl
                              rotate_left
                              · simp only [Act.put, List.setIfInBounds_toArray, List.set_cons_zero, List.set_cons_succ, i64_w, i32_w]
                                rfl
                              refine pure_ (i := 6) (N := some 94) (v := ?_) (a' := ?_) #[true, true, true, true, true, true, true, false, false, false, false, false, false, false, false] rfl rfl (any_of HT_.out (by kernel_rfl)) (fun _ _ _ h => h) (Or.inl ⟨by rfl, ?_⟩) ?_ ?_
                              rotate_left
                              · intro w'
                                go_simp
                                with_reducible rfl
                              rotate_left
                              · simp only [Act.put, List.setIfInBounds_toArray, List.set_cons_zero, List.set_cons_succ, i64_w, i32_w]
                                rfl
                              refine pure_ (i := 7) (N := some 95) (v := ?_) (a' := ?_) #[true, true, true, true, true, true, true, true, false, false, false, false, false, false, false] rfl rfl (any_of HT_.out (by kernel_rfl)) (fun _ _ _ h => h) (Or.inl ⟨by rfl, ?_⟩) ?_ ?_
                              rotate_left
                              · intro w'
                                go_simp
                                with_reducible rfl
                              rotate_left
                              · simp only [Act.put, List.setIfInBounds_toArray, List.set_cons_zero, List.set_cons_succ, i64_w, i32_w]
                                rfl
                              refine pure_ (i := 8) (N := some 96) (v := ?_) (a' := ?_) #[true, true, true, true, true, true, true, true, true, false, false, false, false, false, false] rfl rfl (any_of HT_.out (by kernel_rfl)) (fun _ _ _ h => h) (Or.inl ⟨by rfl, ?_⟩) ?_ ?_
                              rotate_left
                              · intro w'
                                go_simp
                                with_reducible rfl
                              rotate_left
                              · simp only [Act.put, List.setIfInBounds_toArray, List.set_cons_zero, List.set_cons_succ, i64_w, i32_w]
                                rfl
                              refine pure_ (i := 9) (N := some 97) (v := ?_) (a' := ?_) #[true, true, true, true, true, true, true, true, true, true, false, false, false, false, false] rfl rfl (any_of HT_.out (by kernel_rfl)) (fun _ _ _ h => h) (Or.inl ⟨by rfl, ?_⟩) ?_ ?_
                              rotate_left
                              · intro w'
                                go_simp
                                with_reducible rfl
                              rotate_left
                              · simp only [Act.put, List.setIfInBounds_toArray, List.set_cons_zero, List.set_cons_succ, i64_w, i32_w]
                                rfl
                              refine pure_ (i := 10) (N := some 98) (v := ?_) (a' := ?_) #[true, true, true, true, true, true, true, true, true, true, true, false, false, false, false] rfl rfl (any_of HT_.out (by kernel_rfl)) (fun _ _ _ h => h) (Or.inl ⟨by rfl, ?_⟩) ?_ ?_
                              rotate_left
                              · intro w'
                                go_simp
                                with_reducible rfl
                              rotate_left
                              · simp only [Act.put, List.setIfInBounds_toArray, List.set_cons_zero, List.set_cons_succ, i64_w, i32_w]
                                rfl
                              refine one_ (i := 11) (N := some 99) #[true, true, true, true, true, true, true, true, true, true, true, true, false, false, false] rfl rfl (one_of HT_.out (by kernel_rfl)) (by decide) (fun K hK => ?_)
                              refine goes_ Try.func24 (by kernel_rfl) rfl #[.int .u64 t167] (by rfl) rfl rfl (by (try simp only [List.map_toArray, List.map_cons, List.map_nil]); first | done | rfl | (simp only [List.length_drop, List.length_take]; rfl)) ?_
                              with_reducible refine (wire_Number.calls k2 t167 t174 _ A32.out).mono ?_
                              rintro e w37 ⟨rfl, hb⟩
                              refine ⟨_, rfl, ?_⟩
                              have n0_ := Aside0.mk (IsS57.below (by repeat (first | (with_reducible first | exact HI158.out | apply IsS57.alloc | apply IsS57.drewN | apply IsS57.drew | apply IsS57.set_0 | apply IsS57.set_1) | exact HI158.out)) hb)
                              have n1_ := Aside0.mk (below_step (by repeat (first | (with_reducible first | exact HB.out | apply below_alloc | apply pw_below_drewN | apply below_drew1 | refine below_set ?_ (IsS57.ge HI158.out)) | exact HB.out)) hb)
                              clear HI158
                              clear HB
                              have HI158 := n0_
                              have HB := n1_
                              clear n0_ n1_
                              (try clear hb)
                              (try clear hb2)
                              (try clear hk)
                              (try clear hi)
                              refine hK.out _ _ trivial (fun hHeld => ?_)
                              clear hK K
                              refine norm_ (a' := ?_) ?_ ?_
                              rotate_left
                              · show Act.put _ (some 99) _ = _
                                simp only [Act.put, List.setIfInBounds_toArray, List.set_cons_zero, List.set_cons_succ, i64_w, i32_w]
                                rfl
                              refine pure_ (i := 12) (N := some 100) (v := ?_) (a' := ?_) #[true, true, true, true, true, true, true, true, true, true, true, true, true, false, false] rfl rfl (any_of HT_.out (by kernel_rfl)) (fun _ _ _ h => h) (Or.inl ⟨by rfl, ?_⟩) ?_ ?_
                              rotate_left
                              · intro w'
                                go_simp
                                with_reducible rfl
                              rotate_left
                              · simp only [Act.put, List.setIfInBounds_toArray, List.set_cons_zero, List.set_cons_succ, i64_w, i32_w]
                                rfl
                              refine pure_ (i := 13) (N := some 101) (v := ?_) (a' := ?_) #[true, true, true, true, true, true, true, true, true, true, true, true, true, true, false] rfl rfl (any_of HT_.out (by kernel_rfl)) (fun _ _ _ h => h) (Or.inl ⟨by rfl, ?_⟩) ?_ ?_
                              rotate_left
                              · intro w'
                                go_simp
                                with_reducible rfl
                              rotate_left
                              · simp only [Act.put, List.setIfInBounds_toArray, List.set_cons_zero, List.set_cons_succ, i64_w, i32_w]
                                rfl
                              refine pure_ (i := 14) (N := some 4) (v := ?_) (a' := ?_) #[true, true, true, true, true, true, true, true, true, true, true, true, true, true, true] rfl rfl (any_of HT_.out (by kernel_rfl)) (fun _ _ _ h => h) (Or.inl ⟨by rfl, ?_⟩) ?_ ?_
                              rotate_left
                              · intro w'
                                go_simp
                                with_reducible rfl
                              rotate_left
                              · simp only [Act.put, List.setIfInBounds_toArray, List.set_cons_zero, List.set_cons_succ, i64_w, i32_w]
                                rfl
                              refine done_ (done_of HT_.out (by kernel_rfl)) ?_
                              try go_wp2
                              go_ret
                              exact ⟨by first | rfl | (simp [errW_none, errW_some] <;> rfl) | (simp only [← hji29]; first | rfl | (simp [errW_none, errW_some] <;> rfl)) | (simp [*, errW_none, errW_some] <;> rfl), by repeat (first | (with_reducible first | exact HB.out | apply below_alloc | apply pw_below_drewN | apply below_drew1 | refine below_set ?_ (IsS57.ge HI158.out)) | exact HB.out)⟩
                            · rw [if_neg c31] at H
                              exact absurd H (by simp)
                          · rw [if_neg c30] at H
                            exact absurd H (by simp)
                        · rw [if_neg c28] at H
                          have c28b0 : decide ((wrap64 ((a1.size : Int) - t171)) ≤ 10) = false := decide_eq_false c28
                          clear c28
                          obtain rfl := Option.some.inj H
                          try go_wp2_with (first | ((with_reducible refine gate_callee (f := 31) rfl ?_); refine goesL_ (some 57) rfl rfl Try.func31 (by kernel_rfl) rfl #[.pointer (some ⟨g158, 0, none⟩)] rfl (by (try simp only [List.map_toArray, List.map_cons, List.map_nil]); first | done | rfl | (simp only [List.length_drop, List.length_take]; rfl)) ?_; (with_reducible refine (wire_Reader_Left.calls g158 x159000_2 x159001_2 t164 t165 t166 w _ ?side1 ?side2 A22.out).mono ?_); (case side1 => repeat (first | (with_reducible first | exact HI158.out | apply IsS57.alloc | apply IsS57.drewN | apply IsS57.drew | apply IsS57.set_0 | apply IsS57.set_1) | exact HI158.out)); (case side2 => repeat (first | (with_reducible first | exact HB.out | apply below_alloc | apply pw_below_drewN | apply below_drew1 | refine below_set ?_ (IsS57.ge HI158.out)) | exact HB.out)); rintro e w38 ⟨rfl, hi, hb, hk⟩; refine ⟨_, rfl, ?_⟩; have n0_ := Aside0.mk (hb); have n1_ := Aside0.mk (hi); clear HB; clear HI158; have HB := n0_; have HI158 := n1_; clear n0_ n1_; (try clear hb); (try clear hb2); (try clear hk); (try clear hi)) | ((with_reducible refine gate_callee (f := 27) rfl ?_); refine goesL_ (some 63) rfl rfl Try.func27 (by kernel_rfl) rfl #[.pointer (some ⟨g158, 0, none⟩)] rfl (by (try simp only [List.map_toArray, List.map_cons, List.map_nil]); first | done | rfl | (simp only [List.length_drop, List.length_take]; rfl)) ?_; (with_reducible refine (wire_Reader_Number.calls k2 g158 t165 t166 t167 t168 t169 t170 w _ ?side1 ?side2 A24.out).mono ?_); (case side1 => repeat (first | (with_reducible first | exact HI158.out | apply IsS57.alloc | apply IsS57.drewN | apply IsS57.drew | apply IsS57.set_0 | apply IsS57.set_1) | exact HI158.out)); (case side2 => repeat (first | (with_reducible first | exact HB.out | apply below_alloc | apply pw_below_drewN | apply below_drew1 | refine below_set ?_ (IsS57.ge HI158.out)) | exact HB.out)); rintro e w39 ⟨rfl, hi, hb, hk⟩; refine ⟨_, rfl, ?_⟩; have n0_ := Aside0.mk (hb); have n1_ := Aside0.mk (hi); clear HB; clear HI158; have HB := n0_; have HI158 := n1_; clear n0_ n1_; (try clear hb); (try clear hb2); (try clear hk); (try clear hi)) | ((with_reducible refine gate_callee (f := 31) rfl ?_); refine goesL_ (some 86) rfl rfl Try.func31 (by kernel_rfl) rfl #[.pointer (some ⟨g158, 0, none⟩)] rfl (by (try simp only [List.map_toArray, List.map_cons, List.map_nil]); first | done | rfl | (simp only [List.length_drop, List.length_take]; rfl)) ?_; (with_reducible refine (wire_Reader_Left.calls g158 t169 t170 t171 t172 t173 w _ ?side1 ?side2 A26.out).mono ?_); (case side1 => repeat (first | (with_reducible first | exact HI158.out | apply IsS57.alloc | apply IsS57.drewN | apply IsS57.drew | apply IsS57.set_0 | apply IsS57.set_1) | exact HI158.out)); (case side2 => repeat (first | (with_reducible first | exact HB.out | apply below_alloc | apply pw_below_drewN | apply below_drew1 | refine below_set ?_ (IsS57.ge HI158.out)) | exact HB.out)); rintro e w40 ⟨rfl, hi, hb, hk⟩; refine ⟨_, rfl, ?_⟩; have n0_ := Aside0.mk (hb); have n1_ := Aside0.mk (hi); clear HB; clear HI158; have HB := n0_; have HI158 := n1_; clear n0_ n1_; (try clear hb); (try clear hb2); (try clear hk); (try clear hi)))
                          have n0_ := Aside0.mk (IsS57.drew HI158.out)
                          have n1_ := Aside0.mk (below_drew1 HB.out)
                          clear HI158
                          clear HB
                          have HI158 := n0_
                          have HB := n1_
                          clear n0_ n1_
                          refine start_ (n := 15) (S := fun w' => True) (ds := []) #[false, false, false, false, false, false, false, false, false, false, false, false, false, false, false] (by kernel_rfl) rfl rfl trivial (fun hHeld => ?_); refine with_tabW massiflaw06_WireBack.tab23 massiflaw06_WireBack.bits23 (fun HT_ HW_ => ?_)
                          generalize w40.drew = w41 at HI158 HB hHeld ⊢
                          refine pure_ (i := 0) (N := some 88) (v := ?_) (a' := ?_) #[true, false, false, false, false, false, false, false, false, false, false, false, false, false, false] rfl rfl (any_of HT_.out (by kernel_rfl)) (fun _ _ _ h => h) (Or.inl ⟨by rfl, ?_⟩) ?_ ?_
                          rotate_left
                          · intro w'
                            go_simp
                            with_reducible rfl
                          rotate_left
                          · simp only [Act.put, List.setIfInBounds_toArray, List.set_cons_zero, List.set_cons_succ, i64_w, i32_w]
                            rfl
                          refine pure_ (i := 1) (N := some 89) (v := ?_) (a' := ?_) #[true, true, false, false, false, false, false, false, false, false, false, false, false, false, false] rfl rfl (any_of HT_.out (by kernel_rfl)) (fun _ _ _ h => h) (Or.inl ⟨by rfl, ?_⟩) ?_ ?_
                          rotate_left
                          · intro w'
                            go_simp
                            with_reducible rfl
                          rotate_left
                          · simp only [Act.put, List.setIfInBounds_toArray, List.set_cons_zero, List.set_cons_succ, i64_w, i32_w]
                            rfl
                          refine pure_ (i := 2) (N := some 90) (v := ?_) (a' := ?_) #[true, true, true, false, false, false, false, false, false, false, false, false, false, false, false] rfl rfl (any_of HT_.out (by kernel_rfl)) (fun _ _ _ h => h) (Or.inl ⟨by rfl, ?_⟩) ?_ ?_
                          rotate_left
                          · intro w'
                            go_simp
                            with_reducible rfl
                          rotate_left
                          · simp only [Act.put, List.setIfInBounds_toArray, List.set_cons_zero, List.set_cons_succ, i64_w, i32_w]
                            rfl
                          refine pure_ (i := 3) (N := some 91) (v := ?_) (a' := ?_) #[true, true, true, true, false, false, false, false, false, false, false, false, false, false, false] rfl rfl (any_of HT_.out (by kernel_rfl)) (fun _ _ _ h => h) (Or.inl ⟨by rfl, ?_⟩) ?_ ?_
                          rotate_left
                          · intro w'
                            go_simp
                            with_reducible rfl
                          rotate_left
                          · simp only [Act.put, List.setIfInBounds_toArray, List.set_cons_zero, List.set_cons_succ, i64_w, i32_w]
                            rfl
                          refine pure_ (i := 4) (N := some 92) (v := ?_) (a' := ?_) #[true, true, true, true, true, false, false, false, false, false, false, false, false, false, false] rfl rfl (any_of HT_.out (by kernel_rfl)) (fun _ _ _ h => h) (Or.inl ⟨by rfl, ?_⟩) ?_ ?_
                          rotate_left
                          · intro w'
                            go_simp
                            with_reducible rfl
                          rotate_left
                          · simp only [Act.put, List.setIfInBounds_toArray, List.set_cons_zero, List.set_cons_succ, i64_w, i32_w]
                            rfl
                          refine pure_ (i := 5) (N := some 93) (v := ?_) (a' := ?_) #[true, true, true, true, true, true, false, false, false, false, false, false, false, false, false] rfl rfl (any_of HT_.out (by kernel_rfl)) (fun _ _ _ h => h) (Or.inl ⟨by rfl, ?_⟩) ?_ ?_
                          rotate_left
                          · intro w'
                            go_simp
                            with_reducible rfl
                          rotate_left
                          · simp only [Act.put, List.setIfInBounds_toArray, List.set_cons_zero, List.set_cons_succ, i64_w, i32_w]
                            rfl
                          refine pure_ (i := 6) (N := some 94) (v := ?_) (a' := ?_) #[true, true, true, true, true, true, true, false, false, false, false, false, false, false, false] rfl rfl (any_of HT_.out (by kernel_rfl)) (fun _ _ _ h => h) (Or.inl ⟨by rfl, ?_⟩) ?_ ?_
                          rotate_left
                          · intro w'
                            go_simp
                            with_reducible rfl
                          rotate_left
                          · simp only [Act.put, List.setIfInBounds_toArray, List.set_cons_zero, List.set_cons_succ, i64_w, i32_w]
                            rfl
                          refine pure_ (i := 7) (N := some 95) (v := undef) (a' := ?_) #[true, true, true, true, true, true, true, true, false, false, false, false, false, false, false] rfl rfl (any_of HT_.out (by kernel_rfl)) (fun _ _ _ h => h) (Or.inr ⟨by rfl, rfl⟩) ?_ ?_
                          rotate_left
                          · simp only [Act.put, List.setIfInBounds_toArray, List.set_cons_zero, List.set_cons_succ, i64_w, i32_w]
                            rfl
                          refine pure_ (i := 8) (N := some 96) (v := undef) (a' := ?_) #[true, true, true, true, true, true, true, true, true, false, false, false, false, false, false] rfl rfl (any_of HT_.out (by kernel_rfl)) (fun _ _ _ h => h) (Or.inr ⟨by rfl, rfl⟩) ?_ ?_
                          rotate_left
                          · simp only [Act.put, List.setIfInBounds_toArray, List.set_cons_zero, List.set_cons_succ, i64_w, i32_w]
                            rfl
                          refine pure_ (i := 9) (N := some 97) (v := undef) (a' := ?_) #[true, true, true, true, true, true, true, true, true, true, false, false, false, false, false] rfl rfl (any_of HT_.out (by kernel_rfl)) (fun _ _ _ h => h) (Or.inr ⟨by rfl, rfl⟩) ?_ ?_
                          rotate_left
                          · simp only [Act.put, List.setIfInBounds_toArray, List.set_cons_zero, List.set_cons_succ, i64_w, i32_w]
                            rfl
                          refine pure_ (i := 10) (N := some 98) (v := undef) (a' := ?_) #[true, true, true, true, true, true, true, true, true, true, true, false, false, false, false] rfl rfl (any_of HT_.out (by kernel_rfl)) (fun _ _ _ h => h) (Or.inr ⟨by rfl, rfl⟩) ?_ ?_
                          rotate_left
                          · simp only [Act.put, List.setIfInBounds_toArray, List.set_cons_zero, List.set_cons_succ, i64_w, i32_w]
                            rfl
                          refine pure_ (i := 11) (N := some 99) (v := undef) (a' := ?_) #[true, true, true, true, true, true, true, true, true, true, true, true, false, false, false] rfl rfl (any_of HT_.out (by kernel_rfl)) (fun _ _ _ h => h) (Or.inr ⟨by rfl, rfl⟩) ?_ ?_
                          rotate_left
                          · simp only [Act.put, List.setIfInBounds_toArray, List.set_cons_zero, List.set_cons_succ, i64_w, i32_w]
                            rfl
                          refine pure_ (i := 12) (N := some 100) (v := undef) (a' := ?_) #[true, true, true, true, true, true, true, true, true, true, true, true, true, false, false] rfl rfl (any_of HT_.out (by kernel_rfl)) (fun _ _ _ h => h) (Or.inr ⟨by rfl, rfl⟩) ?_ ?_
                          rotate_left
                          · simp only [Act.put, List.setIfInBounds_toArray, List.set_cons_zero, List.set_cons_succ, i64_w, i32_w]
                            rfl
                          refine pure_ (i := 13) (N := some 101) (v := ?_) (a' := ?_) #[true, true, true, true, true, true, true, true, true, true, true, true, true, true, false] rfl rfl (any_of HT_.out (by kernel_rfl)) (fun _ _ _ h => h) (Or.inl ⟨by rfl, ?_⟩) ?_ ?_
                          rotate_left
                          · intro w'
                            go_simp
                            with_reducible rfl
                          rotate_left
                          · simp only [Act.put, List.setIfInBounds_toArray, List.set_cons_zero, List.set_cons_succ, i64_w, i32_w]
                            rfl
                          refine pure_ (i := 14) (N := some 4) (v := ?_) (a' := ?_) #[true, true, true, true, true, true, true, true, true, true, true, true, true, true, true] rfl rfl (any_of HT_.out (by kernel_rfl)) (fun _ _ _ h => h) (Or.inl ⟨by rfl, ?_⟩) ?_ ?_
                          rotate_left
                          · intro w'
                            go_simp
                            with_reducible rfl
                          rotate_left
                          · simp only [Act.put, List.setIfInBounds_toArray, List.set_cons_zero, List.set_cons_succ, i64_w, i32_w]
                            rfl
                          refine done_ (done_of HT_.out (by kernel_rfl)) ?_
                          try go_wp2
                          go_ret
                          exact ⟨by first | rfl | (simp [errW_none, errW_some] <;> rfl) | (simp [*, errW_none, errW_some] <;> rfl), by repeat (first | (with_reducible first | exact HB.out | apply below_alloc | apply pw_below_drewN | apply below_drew1 | refine below_set ?_ (IsS57.ge HI158.out)) | exact HB.out)⟩
                      · rw [if_neg c27] at H
                        have c27b0 : decide (1 ≤ (wrap64 ((a1.size : Int) - t171))) = false := decide_eq_false c27
                        clear c27
                        obtain rfl := Option.some.inj H
                        try go_wp2_with (first | ((with_reducible refine gate_callee (f := 31) rfl ?_); refine goesL_ (some 57) rfl rfl Try.func31 (by kernel_rfl) rfl #[.pointer (some ⟨g158, 0, none⟩)] rfl (by (try simp only [List.map_toArray, List.map_cons, List.map_nil]); first | done | rfl | (simp only [List.length_drop, List.length_take]; rfl)) ?_; (with_reducible refine (wire_Reader_Left.calls g158 x159000_2 x159001_2 t164 t165 t166 w _ ?side1 ?side2 A22.out).mono ?_); (case side1 => repeat (first | (with_reducible first | exact HI158.out | apply IsS57.alloc | apply IsS57.drewN | apply IsS57.drew | apply IsS57.set_0 | apply IsS57.set_1) | exact HI158.out)); (case side2 => repeat (first | (with_reducible first | exact HB.out | apply below_alloc | apply pw_below_drewN | apply below_drew1 | refine below_set ?_ (IsS57.ge HI158.out)) | exact HB.out)); rintro e w42 ⟨rfl, hi, hb, hk⟩; refine ⟨_, rfl, ?_⟩; have n0_ := Aside0.mk (hb); have n1_ := Aside0.mk (hi); clear HB; clear HI158; have HB := n0_; have HI158 := n1_; clear n0_ n1_; (try clear hb); (try clear hb2); (try clear hk); (try clear hi)) | ((with_reducible refine gate_callee (f := 27) rfl ?_); refine goesL_ (some 63) rfl rfl Try.func27 (by kernel_rfl) rfl #[.pointer (some ⟨g158, 0, none⟩)] rfl (by (try simp only [List.map_toArray, List.map_cons, List.map_nil]); first | done | rfl | (simp only [List.length_drop, List.length_take]; rfl)) ?_; (with_reducible refine (wire_Reader_Number.calls k2 g158 t165 t166 t167 t168 t169 t170 w _ ?side1 ?side2 A24.out).mono ?_); (case side1 => repeat (first | (with_reducible first | exact HI158.out | apply IsS57.alloc | apply IsS57.drewN | apply IsS57.drew | apply IsS57.set_0 | apply IsS57.set_1) | exact HI158.out)); (case side2 => repeat (first | (with_reducible first | exact HB.out | apply below_alloc | apply pw_below_drewN | apply below_drew1 | refine below_set ?_ (IsS57.ge HI158.out)) | exact HB.out)); rintro e w43 ⟨rfl, hi, hb, hk⟩; refine ⟨_, rfl, ?_⟩; have n0_ := Aside0.mk (hb); have n1_ := Aside0.mk (hi); clear HB; clear HI158; have HB := n0_; have HI158 := n1_; clear n0_ n1_; (try clear hb); (try clear hb2); (try clear hk); (try clear hi)) | ((with_reducible refine gate_callee (f := 31) rfl ?_); refine goesL_ (some 86) rfl rfl Try.func31 (by kernel_rfl) rfl #[.pointer (some ⟨g158, 0, none⟩)] rfl (by (try simp only [List.map_toArray, List.map_cons, List.map_nil]); first | done | rfl | (simp only [List.length_drop, List.length_take]; rfl)) ?_; (with_reducible refine (wire_Reader_Left.calls g158 t169 t170 t171 t172 t173 w _ ?side1 ?side2 A26.out).mono ?_); (case side1 => repeat (first | (with_reducible first | exact HI158.out | apply IsS57.alloc | apply IsS57.drewN | apply IsS57.drew | apply IsS57.set_0 | apply IsS57.set_1) | exact HI158.out)); (case side2 => repeat (first | (with_reducible first | exact HB.out | apply below_alloc | apply pw_below_drewN | apply below_drew1 | refine below_set ?_ (IsS57.ge HI158.out)) | exact HB.out)); rintro e w44 ⟨rfl, hi, hb, hk⟩; refine ⟨_, rfl, ?_⟩; have n0_ := Aside0.mk (hb); have n1_ := Aside0.mk (hi); clear HB; clear HI158; have HB := n0_; have HI158 := n1_; clear n0_ n1_; (try clear hb); (try clear hb2); (try clear hk); (try clear hi)))
                        have n0_ := Aside0.mk (IsS57.drew HI158.out)
                        have n1_ := Aside0.mk (below_drew1 HB.out)
                        clear HI158
                        clear HB
                        have HI158 := n0_
                        have HB := n1_
                        clear n0_ n1_
                        refine start_ (n := 15) (S := fun w' => True) (ds := []) #[false, false, false, false, false, false, false, false, false, false, false, false, false, false, false] (by kernel_rfl) rfl rfl trivial (fun hHeld => ?_); refine with_tabW massiflaw06_WireBack.tab23 massiflaw06_WireBack.bits23 (fun HT_ HW_ => ?_)
                        generalize w44.drew = w45 at HI158 HB hHeld ⊢
                        refine pure_ (i := 0) (N := some 88) (v := ?_) (a' := ?_) #[true, false, false, false, false, false, false, false, false, false, false, false, false, false, false] rfl rfl (any_of HT_.out (by kernel_rfl)) (fun _ _ _ h => h) (Or.inl ⟨by rfl, ?_⟩) ?_ ?_
                        rotate_left
                        · intro w'
                          go_simp
                          with_reducible rfl
                        rotate_left
                        · simp only [Act.put, List.setIfInBounds_toArray, List.set_cons_zero, List.set_cons_succ, i64_w, i32_w]
                          rfl
                        refine pure_ (i := 1) (N := some 89) (v := ?_) (a' := ?_) #[true, true, false, false, false, false, false, false, false, false, false, false, false, false, false] rfl rfl (any_of HT_.out (by kernel_rfl)) (fun _ _ _ h => h) (Or.inl ⟨by rfl, ?_⟩) ?_ ?_
                        rotate_left
                        · intro w'
                          go_simp
                          with_reducible rfl
                        rotate_left
                        · simp only [Act.put, List.setIfInBounds_toArray, List.set_cons_zero, List.set_cons_succ, i64_w, i32_w]
                          rfl
                        refine pure_ (i := 2) (N := some 90) (v := ?_) (a' := ?_) #[true, true, true, false, false, false, false, false, false, false, false, false, false, false, false] rfl rfl (any_of HT_.out (by kernel_rfl)) (fun _ _ _ h => h) (Or.inl ⟨by rfl, ?_⟩) ?_ ?_
                        rotate_left
                        · intro w'
                          go_simp
                          with_reducible rfl
                        rotate_left
                        · simp only [Act.put, List.setIfInBounds_toArray, List.set_cons_zero, List.set_cons_succ, i64_w, i32_w]
                          rfl
                        refine pure_ (i := 3) (N := some 91) (v := undef) (a' := ?_) #[true, true, true, true, false, false, false, false, false, false, false, false, false, false, false] rfl rfl (any_of HT_.out (by kernel_rfl)) (fun _ _ _ h => h) (Or.inr ⟨by rfl, rfl⟩) ?_ ?_
                        rotate_left
                        · simp only [Act.put, List.setIfInBounds_toArray, List.set_cons_zero, List.set_cons_succ, i64_w, i32_w]
                          rfl
                        refine pure_ (i := 4) (N := some 92) (v := undef) (a' := ?_) #[true, true, true, true, true, false, false, false, false, false, false, false, false, false, false] rfl rfl (any_of HT_.out (by kernel_rfl)) (fun _ _ _ h => h) (Or.inr ⟨by rfl, rfl⟩) ?_ ?_
                        rotate_left
                        · simp only [Act.put, List.setIfInBounds_toArray, List.set_cons_zero, List.set_cons_succ, i64_w, i32_w]
                          rfl
                        refine pure_ (i := 5) (N := some 93) (v := ?_) (a' := ?_) #[true, true, true, true, true, true, false, false, false, false, false, false, false, false, false] rfl rfl (any_of HT_.out (by kernel_rfl)) (fun _ _ _ h => h) (Or.inl ⟨by rfl, ?_⟩) ?_ ?_
                        rotate_left
                        · intro w'
                          go_simp
                          with_reducible rfl
                        rotate_left
                        · simp only [Act.put, List.setIfInBounds_toArray, List.set_cons_zero, List.set_cons_succ, i64_w, i32_w]
                          rfl
                        refine pure_ (i := 6) (N := some 94) (v := ?_) (a' := ?_) #[true, true, true, true, true, true, true, false, false, false, false, false, false, false, false] rfl rfl (any_of HT_.out (by kernel_rfl)) (fun _ _ _ h => h) (Or.inl ⟨by rfl, ?_⟩) ?_ ?_
                        rotate_left
                        · intro w'
                          go_simp
                          with_reducible rfl
                        rotate_left
                        · simp only [Act.put, List.setIfInBounds_toArray, List.set_cons_zero, List.set_cons_succ, i64_w, i32_w]
                          rfl
                        refine pure_ (i := 7) (N := some 95) (v := undef) (a' := ?_) #[true, true, true, true, true, true, true, true, false, false, false, false, false, false, false] rfl rfl (any_of HT_.out (by kernel_rfl)) (fun _ _ _ h => h) (Or.inr ⟨by rfl, rfl⟩) ?_ ?_
                        rotate_left
                        · simp only [Act.put, List.setIfInBounds_toArray, List.set_cons_zero, List.set_cons_succ, i64_w, i32_w]
                          rfl
                        refine pure_ (i := 8) (N := some 96) (v := undef) (a' := ?_) #[true, true, true, true, true, true, true, true, true, false, false, false, false, false, false] rfl rfl (any_of HT_.out (by kernel_rfl)) (fun _ _ _ h => h) (Or.inr ⟨by rfl, rfl⟩) ?_ ?_
                        rotate_left
                        · simp only [Act.put, List.setIfInBounds_toArray, List.set_cons_zero, List.set_cons_succ, i64_w, i32_w]
                          rfl
                        refine pure_ (i := 9) (N := some 97) (v := undef) (a' := ?_) #[true, true, true, true, true, true, true, true, true, true, false, false, false, false, false] rfl rfl (any_of HT_.out (by kernel_rfl)) (fun _ _ _ h => h) (Or.inr ⟨by rfl, rfl⟩) ?_ ?_
                        rotate_left
                        · simp only [Act.put, List.setIfInBounds_toArray, List.set_cons_zero, List.set_cons_succ, i64_w, i32_w]
                          rfl
                        refine pure_ (i := 10) (N := some 98) (v := undef) (a' := ?_) #[true, true, true, true, true, true, true, true, true, true, true, false, false, false, false] rfl rfl (any_of HT_.out (by kernel_rfl)) (fun _ _ _ h => h) (Or.inr ⟨by rfl, rfl⟩) ?_ ?_
                        rotate_left
                        · simp only [Act.put, List.setIfInBounds_toArray, List.set_cons_zero, List.set_cons_succ, i64_w, i32_w]
                          rfl
                        refine pure_ (i := 11) (N := some 99) (v := undef) (a' := ?_) #[true, true, true, true, true, true, true, true, true, true, true, true, false, false, false] rfl rfl (any_of HT_.out (by kernel_rfl)) (fun _ _ _ h => h) (Or.inr ⟨by rfl, rfl⟩) ?_ ?_
                        rotate_left
                        · simp only [Act.put, List.setIfInBounds_toArray, List.set_cons_zero, List.set_cons_succ, i64_w, i32_w]
                          rfl
                        refine pure_ (i := 12) (N := some 100) (v := undef) (a' := ?_) #[true, true, true, true, true, true, true, true, true, true, true, true, true, false, false] rfl rfl (any_of HT_.out (by kernel_rfl)) (fun _ _ _ h => h) (Or.inr ⟨by rfl, rfl⟩) ?_ ?_
                        rotate_left
                        · simp only [Act.put, List.setIfInBounds_toArray, List.set_cons_zero, List.set_cons_succ, i64_w, i32_w]
                          rfl
                        refine pure_ (i := 13) (N := some 101) (v := ?_) (a' := ?_) #[true, true, true, true, true, true, true, true, true, true, true, true, true, true, false] rfl rfl (any_of HT_.out (by kernel_rfl)) (fun _ _ _ h => h) (Or.inl ⟨by rfl, ?_⟩) ?_ ?_
                        rotate_left
                        · intro w'
                          go_simp
                          with_reducible rfl
                        rotate_left
                        · simp only [Act.put, List.setIfInBounds_toArray, List.set_cons_zero, List.set_cons_succ, i64_w, i32_w]
                          rfl
                        refine pure_ (i := 14) (N := some 4) (v := ?_) (a' := ?_) #[true, true, true, true, true, true, true, true, true, true, true, true, true, true, true] rfl rfl (any_of HT_.out (by kernel_rfl)) (fun _ _ _ h => h) (Or.inl ⟨by rfl, ?_⟩) ?_ ?_
                        rotate_left
                        · intro w'
                          go_simp
                          with_reducible rfl
                        rotate_left
                        · simp only [Act.put, List.setIfInBounds_toArray, List.set_cons_zero, List.set_cons_succ, i64_w, i32_w]
                          rfl
                        refine done_ (done_of HT_.out (by kernel_rfl)) ?_
                        try go_wp2
                        go_ret
                        exact ⟨by first | rfl | (simp [errW_none, errW_some] <;> rfl) | (simp [*, errW_none, errW_some] <;> rfl), by repeat (first | (with_reducible first | exact HB.out | apply below_alloc | apply pw_below_drewN | apply below_drew1 | refine below_set ?_ (IsS57.ge HI158.out)) | exact HB.out)⟩
                    · rw [if_neg c25] at H
                      have c25b0 : (t168 == 0) = false := beq_eq_false_iff_ne.mpr c25
                      have c25b1 : (t168 != 0) = true := bne_iff_ne.mpr c25
                      by_cases c46 : t167 = 0
                      · rw [if_pos c46] at H
                        have c46b0 : (t167 == 0) = true := beq_iff_eq.mpr c46
                        have c46b1 : (t167 != 0) = false := bne_eq_false_iff_eq.mpr c46
                        clear c46
                        replace H := Option.bind_eq_some_iff.mp H
                        obtain ⟨⟨t175, t176, t177⟩, A470, H⟩ := H
                        replace H : (if t175 = 0 then (if t168 = 60 then (some true) else (some (t168 == 61))) else (some false)) = some r := H
                        have A47 := Aside0.mk A470
                        clear A470
                        by_cases c48 : t175 = 0
                        · rw [if_pos c48] at H
                          have c48b0 : (t175 == 0) = true := beq_iff_eq.mpr c48
                          have c48b1 : (t175 != 0) = false := bne_eq_false_iff_eq.mpr c48
                          clear c48
                          by_cases c49 : t168 = 60
                          · rw [if_pos c49] at H
                            have c49b0 : (t168 == 60) = true := beq_iff_eq.mpr c49
                            have c49b1 : (t168 != 60) = false := bne_eq_false_iff_eq.mpr c49
                            clear c49
                            obtain rfl := Option.some.inj H
                            go_wp2_with (first | ((with_reducible refine gate_callee (f := 31) rfl ?_); refine goesL_ (some 57) rfl rfl Try.func31 (by kernel_rfl) rfl #[.pointer (some ⟨g158, 0, none⟩)] rfl (by (try simp only [List.map_toArray, List.map_cons, List.map_nil]); first | done | rfl | (simp only [List.length_drop, List.length_take]; rfl)) ?_; (with_reducible refine (wire_Reader_Left.calls g158 x159000_2 x159001_2 t164 t165 t166 w _ ?side1 ?side2 A22.out).mono ?_); (case side1 => repeat (first | (with_reducible first | exact HI158.out | apply IsS57.alloc | apply IsS57.drewN | apply IsS57.drew | apply IsS57.set_0 | apply IsS57.set_1) | exact HI158.out)); (case side2 => repeat (first | (with_reducible first | exact HB.out | apply below_alloc | apply pw_below_drewN | apply below_drew1 | refine below_set ?_ (IsS57.ge HI158.out)) | exact HB.out)); rintro e w50 ⟨rfl, hi, hb, hk⟩; refine ⟨_, rfl, ?_⟩; have n0_ := Aside0.mk (hb); have n1_ := Aside0.mk (hi); clear HB; clear HI158; have HB := n0_; have HI158 := n1_; clear n0_ n1_; (try clear hb); (try clear hb2); (try clear hk); (try clear hi)) | ((with_reducible refine gate_callee (f := 27) rfl ?_); refine goesL_ (some 63) rfl rfl Try.func27 (by kernel_rfl) rfl #[.pointer (some ⟨g158, 0, none⟩)] rfl (by (try simp only [List.map_toArray, List.map_cons, List.map_nil]); first | done | rfl | (simp only [List.length_drop, List.length_take]; rfl)) ?_; (with_reducible refine (wire_Reader_Number.calls k2 g158 t165 t166 t167 t168 t169 t170 w _ ?side1 ?side2 A24.out).mono ?_); (case side1 => repeat (first | (with_reducible first | exact HI158.out | apply IsS57.alloc | apply IsS57.drewN | apply IsS57.drew | apply IsS57.set_0 | apply IsS57.set_1) | exact HI158.out)); (case side2 => repeat (first | (with_reducible first | exact HB.out | apply below_alloc | apply pw_below_drewN | apply below_drew1 | refine below_set ?_ (IsS57.ge HI158.out)) | exact HB.out)); rintro e w51 ⟨rfl, hi, hb, hk⟩; refine ⟨_, rfl, ?_⟩; have n0_ := Aside0.mk (hb); have n1_ := Aside0.mk (hi); clear HB; clear HI158; have HB := n0_; have HI158 := n1_; clear n0_ n1_; (try clear hb); (try clear hb2); (try clear hk); (try clear hi)) | (go_at_call 31; (with_reducible refine (wire_Reader_Left.calls g158 t169 t170 t175 t176 t177 w _ ?side1 ?side2 A47.out).mono ?_); (case side1 => repeat (first | (with_reducible first | exact HI158.out | apply IsS57.alloc | apply IsS57.drewN | apply IsS57.drew | apply IsS57.set_0 | apply IsS57.set_1) | exact HI158.out)); (case side2 => repeat (first | (with_reducible first | exact HB.out | apply below_alloc | apply pw_below_drewN | apply below_drew1 | refine below_set ?_ (IsS57.ge HI158.out)) | exact HB.out)); rintro e w52 ⟨rfl, hi, hb, hk⟩; have n0_ := Aside0.mk (hb); have n1_ := Aside0.mk (hi); clear HB; clear HI158; have HB := n0_; have HI158 := n1_; clear n0_ n1_; (try clear hb); (try clear hb2); (try clear hk); (try clear hi)))
                            go_ret
                            exact ⟨by first | rfl | (simp [errW_none, errW_some] <;> rfl) | (simp [*, errW_none, errW_some] <;> rfl), by repeat (first | (with_reducible first | exact HB.out | apply below_alloc | apply pw_below_drewN | apply below_drew1 | refine below_set ?_ (IsS57.ge HI158.out)) | exact HB.out)⟩
                          · rw [if_neg c49] at H
                            have c49b0 : (t168 == 60) = false := beq_eq_false_iff_ne.mpr c49
                            have c49b1 : (t168 != 60) = true := bne_iff_ne.mpr c49
                            obtain rfl := Option.some.inj H
                            go_wp2_with (first | ((with_reducible refine gate_callee (f := 31) rfl ?_); refine goesL_ (some 57) rfl rfl Try.func31 (by kernel_rfl) rfl #[.pointer (some ⟨g158, 0, none⟩)] rfl (by (try simp only [List.map_toArray, List.map_cons, List.map_nil]); first | done | rfl | (simp only [List.length_drop, List.length_take]; rfl)) ?_; (with_reducible refine (wire_Reader_Left.calls g158 x159000_2 x159001_2 t164 t165 t166 w _ ?side1 ?side2 A22.out).mono ?_); (case side1 => repeat (first | (with_reducible first | exact HI158.out | apply IsS57.alloc | apply IsS57.drewN | apply IsS57.drew | apply IsS57.set_0 | apply IsS57.set_1) | exact HI158.out)); (case side2 => repeat (first | (with_reducible first | exact HB.out | apply below_alloc | apply pw_below_drewN | apply below_drew1 | refine below_set ?_ (IsS57.ge HI158.out)) | exact HB.out)); rintro e w53 ⟨rfl, hi, hb, hk⟩; refine ⟨_, rfl, ?_⟩; have n0_ := Aside0.mk (hb); have n1_ := Aside0.mk (hi); clear HB; clear HI158; have HB := n0_; have HI158 := n1_; clear n0_ n1_; (try clear hb); (try clear hb2); (try clear hk); (try clear hi)) | ((with_reducible refine gate_callee (f := 27) rfl ?_); refine goesL_ (some 63) rfl rfl Try.func27 (by kernel_rfl) rfl #[.pointer (some ⟨g158, 0, none⟩)] rfl (by (try simp only [List.map_toArray, List.map_cons, List.map_nil]); first | done | rfl | (simp only [List.length_drop, List.length_take]; rfl)) ?_; (with_reducible refine (wire_Reader_Number.calls k2 g158 t165 t166 t167 t168 t169 t170 w _ ?side1 ?side2 A24.out).mono ?_); (case side1 => repeat (first | (with_reducible first | exact HI158.out | apply IsS57.alloc | apply IsS57.drewN | apply IsS57.drew | apply IsS57.set_0 | apply IsS57.set_1) | exact HI158.out)); (case side2 => repeat (first | (with_reducible first | exact HB.out | apply below_alloc | apply pw_below_drewN | apply below_drew1 | refine below_set ?_ (IsS57.ge HI158.out)) | exact HB.out)); rintro e w54 ⟨rfl, hi, hb, hk⟩; refine ⟨_, rfl, ?_⟩; have n0_ := Aside0.mk (hb); have n1_ := Aside0.mk (hi); clear HB; clear HI158; have HB := n0_; have HI158 := n1_; clear n0_ n1_; (try clear hb); (try clear hb2); (try clear hk); (try clear hi)) | (go_at_call 31; (with_reducible refine (wire_Reader_Left.calls g158 t169 t170 t175 t176 t177 w _ ?side1 ?side2 A47.out).mono ?_); (case side1 => repeat (first | (with_reducible first | exact HI158.out | apply IsS57.alloc | apply IsS57.drewN | apply IsS57.drew | apply IsS57.set_0 | apply IsS57.set_1) | exact HI158.out)); (case side2 => repeat (first | (with_reducible first | exact HB.out | apply below_alloc | apply pw_below_drewN | apply below_drew1 | refine below_set ?_ (IsS57.ge HI158.out)) | exact HB.out)); rintro e w55 ⟨rfl, hi, hb, hk⟩; have n0_ := Aside0.mk (hb); have n1_ := Aside0.mk (hi); clear HB; clear HI158; have HB := n0_; have HI158 := n1_; clear n0_ n1_; (try clear hb); (try clear hb2); (try clear hk); (try clear hi)))
                            go_ret
                            exact ⟨by first | rfl | (simp [errW_none, errW_some] <;> rfl) | (simp [*, errW_none, errW_some] <;> rfl), by repeat (first | (with_reducible first | exact HB.out | apply below_alloc | apply pw_below_drewN | apply below_drew1 | refine below_set ?_ (IsS57.ge HI158.out)) | exact HB.out)⟩
                        · rw [if_neg c48] at H
                          have c48b0 : (t175 == 0) = false := beq_eq_false_iff_ne.mpr c48
                          have c48b1 : (t175 != 0) = true := bne_iff_ne.mpr c48
                          obtain rfl := Option.some.inj H
                          go_wp2_with (first | ((with_reducible refine gate_callee (f := 31) rfl ?_); refine goesL_ (some 57) rfl rfl Try.func31 (by kernel_rfl) rfl #[.pointer (some ⟨g158, 0, none⟩)] rfl (by (try simp only [List.map_toArray, List.map_cons, List.map_nil]); first | done | rfl | (simp only [List.length_drop, List.length_take]; rfl)) ?_; (with_reducible refine (wire_Reader_Left.calls g158 x159000_2 x159001_2 t164 t165 t166 w _ ?side1 ?side2 A22.out).mono ?_); (case side1 => repeat (first | (with_reducible first | exact HI158.out | apply IsS57.alloc | apply IsS57.drewN | apply IsS57.drew | apply IsS57.set_0 | apply IsS57.set_1) | exact HI158.out)); (case side2 => repeat (first | (with_reducible first | exact HB.out | apply below_alloc | apply pw_below_drewN | apply below_drew1 | refine below_set ?_ (IsS57.ge HI158.out)) | exact HB.out)); rintro e w56 ⟨rfl, hi, hb, hk⟩; refine ⟨_, rfl, ?_⟩; have n0_ := Aside0.mk (hb); have n1_ := Aside0.mk (hi); clear HB; clear HI158; have HB := n0_; have HI158 := n1_; clear n0_ n1_; (try clear hb); (try clear hb2); (try clear hk); (try clear hi)) | ((with_reducible refine gate_callee (f := 27) rfl ?_); refine goesL_ (some 63) rfl rfl Try.func27 (by kernel_rfl) rfl #[.pointer (some ⟨g158, 0, none⟩)] rfl (by (try simp only [List.map_toArray, List.map_cons, List.map_nil]); first | done | rfl | (simp only [List.length_drop, List.length_take]; rfl)) ?_; (with_reducible refine (wire_Reader_Number.calls k2 g158 t165 t166 t167 t168 t169 t170 w _ ?side1 ?side2 A24.out).mono ?_); (case side1 => repeat (first | (with_reducible first | exact HI158.out | apply IsS57.alloc | apply IsS57.drewN | apply IsS57.drew | apply IsS57.set_0 | apply IsS57.set_1) | exact HI158.out)); (case side2 => repeat (first | (with_reducible first | exact HB.out | apply below_alloc | apply pw_below_drewN | apply below_drew1 | refine below_set ?_ (IsS57.ge HI158.out)) | exact HB.out)); rintro e w57 ⟨rfl, hi, hb, hk⟩; refine ⟨_, rfl, ?_⟩; have n0_ := Aside0.mk (hb); have n1_ := Aside0.mk (hi); clear HB; clear HI158; have HB := n0_; have HI158 := n1_; clear n0_ n1_; (try clear hb); (try clear hb2); (try clear hk); (try clear hi)) | (go_at_call 31; (with_reducible refine (wire_Reader_Left.calls g158 t169 t170 t175 t176 t177 w _ ?side1 ?side2 A47.out).mono ?_); (case side1 => repeat (first | (with_reducible first | exact HI158.out | apply IsS57.alloc | apply IsS57.drewN | apply IsS57.drew | apply IsS57.set_0 | apply IsS57.set_1) | exact HI158.out)); (case side2 => repeat (first | (with_reducible first | exact HB.out | apply below_alloc | apply pw_below_drewN | apply below_drew1 | refine below_set ?_ (IsS57.ge HI158.out)) | exact HB.out)); rintro e w58 ⟨rfl, hi, hb, hk⟩; have n0_ := Aside0.mk (hb); have n1_ := Aside0.mk (hi); clear HB; clear HI158; have HB := n0_; have HI158 := n1_; clear n0_ n1_; (try clear hb); (try clear hb2); (try clear hk); (try clear hi)))
                          go_ret
                          exact ⟨by first | rfl | (simp [errW_none, errW_some] <;> rfl) | (simp [*, errW_none, errW_some] <;> rfl), by repeat (first | (with_reducible first | exact HB.out | apply below_alloc | apply pw_below_drewN | apply below_drew1 | refine below_set ?_ (IsS57.ge HI158.out)) | exact HB.out)⟩
                      · rw [if_neg c46] at H
                        have c46b0 : (t167 == 0) = false := beq_eq_false_iff_ne.mpr c46
                        have c46b1 : (t167 != 0) = true := bne_iff_ne.mpr c46
                        obtain rfl := Option.some.inj H
                        go_wp2_with (first | ((with_reducible refine gate_callee (f := 31) rfl ?_); refine goesL_ (some 57) rfl rfl Try.func31 (by kernel_rfl) rfl #[.pointer (some ⟨g158, 0, none⟩)] rfl (by (try simp only [List.map_toArray, List.map_cons, List.map_nil]); first | done | rfl | (simp only [List.length_drop, List.length_take]; rfl)) ?_; (with_reducible refine (wire_Reader_Left.calls g158 x159000_2 x159001_2 t164 t165 t166 w _ ?side1 ?side2 A22.out).mono ?_); (case side1 => repeat (first | (with_reducible first | exact HI158.out | apply IsS57.alloc | apply IsS57.drewN | apply IsS57.drew | apply IsS57.set_0 | apply IsS57.set_1) | exact HI158.out)); (case side2 => repeat (first | (with_reducible first | exact HB.out | apply below_alloc | apply pw_below_drewN | apply below_drew1 | refine below_set ?_ (IsS57.ge HI158.out)) | exact HB.out)); rintro e w59 ⟨rfl, hi, hb, hk⟩; refine ⟨_, rfl, ?_⟩; have n0_ := Aside0.mk (hb); have n1_ := Aside0.mk (hi); clear HB; clear HI158; have HB := n0_; have HI158 := n1_; clear n0_ n1_; (try clear hb); (try clear hb2); (try clear hk); (try clear hi)) | ((with_reducible refine gate_callee (f := 27) rfl ?_); refine goesL_ (some 63) rfl rfl Try.func27 (by kernel_rfl) rfl #[.pointer (some ⟨g158, 0, none⟩)] rfl (by (try simp only [List.map_toArray, List.map_cons, List.map_nil]); first | done | rfl | (simp only [List.length_drop, List.length_take]; rfl)) ?_; (with_reducible refine (wire_Reader_Number.calls k2 g158 t165 t166 t167 t168 t169 t170 w _ ?side1 ?side2 A24.out).mono ?_); (case side1 => repeat (first | (with_reducible first | exact HI158.out | apply IsS57.alloc | apply IsS57.drewN | apply IsS57.drew | apply IsS57.set_0 | apply IsS57.set_1) | exact HI158.out)); (case side2 => repeat (first | (with_reducible first | exact HB.out | apply below_alloc | apply pw_below_drewN | apply below_drew1 | refine below_set ?_ (IsS57.ge HI158.out)) | exact HB.out)); rintro e w60 ⟨rfl, hi, hb, hk⟩; refine ⟨_, rfl, ?_⟩; have n0_ := Aside0.mk (hb); have n1_ := Aside0.mk (hi); clear HB; clear HI158; have HB := n0_; have HI158 := n1_; clear n0_ n1_; (try clear hb); (try clear hb2); (try clear hk); (try clear hi)))
                        go_ret
                        exact ⟨by first | rfl | (simp [errW_none, errW_some] <;> rfl) | (simp [*, errW_none, errW_some] <;> rfl), by repeat (first | (with_reducible first | exact HB.out | apply below_alloc | apply pw_below_drewN | apply below_drew1 | refine below_set ?_ (IsS57.ge HI158.out)) | exact HB.out)⟩
                  · rw [if_neg c23] at H
                    have c23b0 : (t164 == (a1.size : Int)) = false := beq_eq_false_iff_ne.mpr c23
                    have c23b1 : (t164 != (a1.size : Int)) = true := bne_iff_ne.mpr c23
                    obtain rfl := Option.some.inj H
                    go_wp2_with (first | ((with_reducible refine gate_callee (f := 31) rfl ?_); refine goesL_ (some 57) rfl rfl Try.func31 (by kernel_rfl) rfl #[.pointer (some ⟨g158, 0, none⟩)] rfl (by (try simp only [List.map_toArray, List.map_cons, List.map_nil]); first | done | rfl | (simp only [List.length_drop, List.length_take]; rfl)) ?_; (with_reducible refine (wire_Reader_Left.calls g158 x159000_2 x159001_2 t164 t165 t166 w _ ?side1 ?side2 A22.out).mono ?_); (case side1 => repeat (first | (with_reducible first | exact HI158.out | apply IsS57.alloc | apply IsS57.drewN | apply IsS57.drew | apply IsS57.set_0 | apply IsS57.set_1) | exact HI158.out)); (case side2 => repeat (first | (with_reducible first | exact HB.out | apply below_alloc | apply pw_below_drewN | apply below_drew1 | refine below_set ?_ (IsS57.ge HI158.out)) | exact HB.out)); rintro e w61 ⟨rfl, hi, hb, hk⟩; refine ⟨_, rfl, ?_⟩; have n0_ := Aside0.mk (hb); have n1_ := Aside0.mk (hi); clear HB; clear HI158; have HB := n0_; have HI158 := n1_; clear n0_ n1_; (try clear hb); (try clear hb2); (try clear hk); (try clear hi)))
                    go_ret
                    exact ⟨by first | rfl | (simp [errW_none, errW_some] <;> rfl) | (simp [*, errW_none, errW_some] <;> rfl), by repeat (first | (with_reducible first | exact HB.out | apply below_alloc | apply pw_below_drewN | apply below_drew1 | refine below_set ?_ (IsS57.ge HI158.out)) | exact HB.out)⟩
          · rw [if_neg c11] at H
            exact absurd H (by simp)
  · replace c4 := Bool.eq_false_iff.mpr c4
    subst c4
    have H1 : (some false) = some r := by rw [if_neg (show ¬ (false = true) by decide)] at H; exact H
    clear H
    have H := H1
    clear H1
    obtain rfl := Option.some.inj H
    go_enter Try.func7, Try.ntmps7
    go_wp2_with (first | ((with_reducible refine gate_callee (f := 23) rfl ?_); refine goesL_ (some 14) rfl rfl Try.func23 (by kernel_rfl) rfl #[] rfl (by (try simp only [List.map_toArray, List.map_cons, List.map_nil]); first | done | rfl | (simp only [List.length_drop, List.length_take]; rfl)) ?_; (with_reducible refine (massiflaw06_fixed.calls k  false _ A3.out).mono ?_); rintro e w62 ⟨rfl, hb⟩; refine ⟨_, rfl, ?_⟩; have n0_ := Aside0.mk (below_step (by repeat (first | (with_reducible first | exact HB.out | apply below_alloc | apply pw_below_drewN | apply below_drew1) | exact HB.out)) hb); clear HB; have HB := n0_; clear n0_; (try clear hb); (try clear hb2); (try clear hk); (try clear hi)))
    go_ret
    exact ⟨by first | rfl | (simp [errW_none, errW_some] <;> rfl) | (simp [*, errW_none, errW_some] <;> rfl), by repeat (first | (with_reducible first | exact HB.out | apply below_alloc | apply pw_below_drewN | apply below_drew1) | exact HB.out)⟩

/-- THE ONE PURE STATEMENT of massiflaw06_WireBack: yours. -/
def massiflaw06_WireBack.Pure : Prop := ∀ (l0 : List Int) (a1 : ByteArray), l0.length ≤ maxLen → l0.length * 8 ≤ 140737488351232 → (∀ x ∈ l0, (Lit.int .u64 x).wf = true) → a1.size ≤ 140737488351232 → ∃ k, massiflaw06_WireBack.f k l0 a1 = some true
theorem massiflaw06_WireBack.walk (P : massiflaw06_WireBack.Pure) (a0 : Option Addr) (len0 cap0 : Nat) (z0 : List Int) (a1 : ByteArray) (w : World) (w0 : (a0 = none ∧ len0 = 0 ∧ cap0 = 0 ∧ z0 = []) ∨ ∃ x, a0 = some x ∧ len0 ≤ cap0 ∧ cap0 ≤ maxLen ∧ z0.length = cap0 ∧ (∀ i, i < z0.length → w.cell? (x.add i) = some (.int .u64 (z0.getD i 0))) ∧ ∀ n ∈ z0, (Lit.int .u64 n).wf = true) (y0 : len0 * 8 ≤ 140737488351232) (w1 : a1.size ≤ 140737488351232) :
    Calls Try.prog 7 #[.slice a0 len0 cap0, .string a1] w fun e w' => e = .returned (.bool true) ∧ Below w.heap.size w w' := by
  obtain ⟨l0, rfl, hr0, hm0, hw0, hc0⟩ := ReadsInt.ofRowC w0
  obtain ⟨k, h⟩ := P l0 a1 hm0 y0 hw0 w1
  refine (massiflaw06_WireBack.calls k _ _ l0 a1 true w (Kd.C_of_reads (d := (0 : Int)) (h1 := fun _ => rfl) hr0) hc0 h).mono ?_
  rintro e w' ⟨rfl, hd⟩
  exact ⟨rfl, hd⟩

end Go.Proofs.Ytbfmdcccnneanaa.PWireBack
