-- PRINTED BY print.sh 35421559b90ae4d0a3588c463048766b98c2df88dd9212a6774a882060cdf62d: not written by this session
import Derived.Test.YtlbehenaoiddkaaPPlacePeaksx0
import Derived.Test.YtlbehenaoiddkaaPPlacePeaksx2
import Derived.Test.YtlbehenaoiddkaaPPlacePeaksx3
namespace Go.Proofs.Ytlbehenaoiddkaa.PPlacePeaks
open Go.RowKit Go.Proofs.YtlbehenaoiddkaaW.PrintWords Go.Proofs.YtlbehenaoiddkaaW.PrintLast Go.Proofs.YtlbehenaoiddkaaW.PrintMore
attribute [local go_sem] max2_int min2_int max_two min_two max_three min_three max_four min_four   -- for this text's walks alone
set_option linter.unusedVariables false
set_option linter.unusedSimpArgs false

/-! ### massiflaw03_PlacePeaks: function 8 -/
mutual
def massiflaw03_PlacePeaks.l0 : Nat → Int → List Int → Int → Bool → Int → Int → Int → Option (Bool)
  | 0, _, _, _, _, _, _, _ => none
  | k + 1, x0, x3, x4, x5, x6, x7, x8 => if x8 ≥ 0 then (if 0 ≤ (IntKind.u64.wrap (x8)) then (if (Int.tmod (shr .u64 x0 (IntKind.u64.wrap (x8))) 2) = 0 then (massiflaw03_PlacePeaks.l0 k x0 x3 x4 x5 x6 x7 (wrap64 (x8 - 1))) else (if x7 ≥ (x3.length : Int) then (massiflaw03_PlacePeaks.j1 k x0 x3 x4 x5 (IntKind.u64.wrap ((IntKind.u64.wrap (x6 + (shl .u64 2 (IntKind.u64.wrap (x8))))) - 1)) x7 x8 true) else (if 0 ≤ x7 then (if x7 < (x3.length : Int) then (massiflaw03_PlacePeaks.j1 k x0 x3 x4 x5 (IntKind.u64.wrap ((IntKind.u64.wrap (x6 + (shl .u64 2 (IntKind.u64.wrap (x8))))) - 1)) x7 x8 ((rd x3 x7) != (IntKind.u64.wrap ((IntKind.u64.wrap ((IntKind.u64.wrap (x6 + (shl .u64 2 (IntKind.u64.wrap (x8))))) - 1)) - 1)))) else (none)) else (none)))) else (none)) else (if x7 = (x3.length : Int) then (if x5 = true then (some (x6 == x4)) else (some false)) else (some false))
def massiflaw03_PlacePeaks.j1 : Nat → Int → List Int → Int → Bool → Int → Int → Int → Bool → Option (Bool)
  | 0, _, _, _, _, _, _, _, _ => none
  | k + 1, x0, x3, x4, x5, x6, x7, x8, x61 => if x61 = true then (some false) else (if 0 ≤ x7 then (if x7 < (x3.length : Int) then ((place_Height.f k (rd x3 x7)).bind fun bt174 => (if bt174.2 = true then (if bt174.1 = x8 then (massiflaw03_PlacePeaks.l0 k x0 x3 x4 x5 x6 (wrap64 (x7 + 1)) (wrap64 (x8 - 1))) else (some false)) else (some false))) else (none)) else (none))
end
def massiflaw03_PlacePeaks.f (k : Nat) (a0 : Int) : Option (Bool) := (massiflaw03_alive.f k).bind fun t166 => (if t166 = true then ((place_Peaks.f k a0).bind fun t167 => ((place_Nodes.f k a0).bind fun bt170 => (if a0 > 1099511627776 then (if (t167.length : Int) = 0 then (if bt170.2 = true then (some false) else (some (bt170.1 == 0))) else (some false)) else (massiflaw03_PlacePeaks.l0 k a0 t167 bt170.1 bt170.2 0 0 40)))) else (some false))
theorem massiflaw03_PlacePeaks.mono_l : ∀ k, (∀ y0 y1 y2 y3 y4 y5 y6, LeO (massiflaw03_PlacePeaks.l0 k y0 y1 y2 y3 y4 y5 y6) (massiflaw03_PlacePeaks.l0 (k + 1) y0 y1 y2 y3 y4 y5 y6)) ∧ (∀ y0 y1 y2 y3 y4 y5 y6 y7, LeO (massiflaw03_PlacePeaks.j1 k y0 y1 y2 y3 y4 y5 y6 y7) (massiflaw03_PlacePeaks.j1 (k + 1) y0 y1 y2 y3 y4 y5 y6 y7))
  | 0 => ⟨fun _ _ _ _ _ _ _ r h => by simp [massiflaw03_PlacePeaks.l0] at h, fun _ _ _ _ _ _ _ _ r h => by simp [massiflaw03_PlacePeaks.j1] at h⟩
  | k + 1 => by
    obtain ⟨ih0, ih1⟩ := massiflaw03_PlacePeaks.mono_l k
    refine ⟨?_, ?_⟩
    · intro y0 y1 y2 y3 y4 y5 y6
      unfold massiflaw03_PlacePeaks.l0
      repeat' first
      | (with_reducible exact ih0 _ _ _ _ _ _ _)
      | (with_reducible exact ih1 _ _ _ _ _ _ _ _)
      | (with_reducible exact massiflaw03_alive.mono _)
      | (with_reducible exact place_Height.mono _ _)
      | (with_reducible exact place_Nodes.mono _ _)
      | (with_reducible exact place_Peaks.mono _ _)
      | (with_reducible exact LeO.refl _)
      | (with_reducible exact LeO.none _)
      | (with_reducible refine LeO.ite ?_ ?_)
      | (with_reducible refine LeO.bind ?_ (fun _ => ?_))
      | exact ih0 _ _ _ _ _ _ _
      | exact ih1 _ _ _ _ _ _ _ _
      | exact massiflaw03_alive.mono _
      | exact place_Height.mono _ _
      | exact place_Nodes.mono _ _
      | exact place_Peaks.mono _ _
      | exact LeO.none _
      | refine LeO.ite ?_ ?_
      | refine LeO.bind ?_ (fun _ => ?_)
    · intro y0 y1 y2 y3 y4 y5 y6 y7
      unfold massiflaw03_PlacePeaks.j1
      repeat' first
      | (with_reducible exact ih0 _ _ _ _ _ _ _)
      | (with_reducible exact ih1 _ _ _ _ _ _ _ _)
      | (with_reducible exact massiflaw03_alive.mono _)
      | (with_reducible exact place_Height.mono _ _)
      | (with_reducible exact place_Nodes.mono _ _)
      | (with_reducible exact place_Peaks.mono _ _)
      | (with_reducible exact LeO.refl _)
      | (with_reducible exact LeO.none _)
      | (with_reducible refine LeO.ite ?_ ?_)
      | (with_reducible refine LeO.bind ?_ (fun _ => ?_))
      | exact ih0 _ _ _ _ _ _ _
      | exact ih1 _ _ _ _ _ _ _ _
      | exact massiflaw03_alive.mono _
      | exact place_Height.mono _ _
      | exact place_Nodes.mono _ _
      | exact place_Peaks.mono _ _
      | exact LeO.none _
      | refine LeO.ite ?_ ?_
      | refine LeO.bind ?_ (fun _ => ?_)
theorem massiflaw03_PlacePeaks.mono : ∀ a0 k, LeO (massiflaw03_PlacePeaks.f k a0) (massiflaw03_PlacePeaks.f (k + 1) a0) := by
  intro a0 k
  obtain ⟨ih0, ih1⟩ := massiflaw03_PlacePeaks.mono_l k
  unfold massiflaw03_PlacePeaks.f
  repeat' first
      | (with_reducible exact ih0 _ _ _ _ _ _ _)
      | (with_reducible exact ih1 _ _ _ _ _ _ _ _)
      | (with_reducible exact massiflaw03_alive.mono _)
      | (with_reducible exact place_Height.mono _ _)
      | (with_reducible exact place_Nodes.mono _ _)
      | (with_reducible exact place_Peaks.mono _ _)
      | (with_reducible exact LeO.refl _)
      | (with_reducible exact LeO.none _)
      | (with_reducible refine LeO.ite ?_ ?_)
      | (with_reducible refine LeO.bind ?_ (fun _ => ?_))
      | exact ih0 _ _ _ _ _ _ _
      | exact ih1 _ _ _ _ _ _ _ _
      | exact massiflaw03_alive.mono _
      | exact place_Height.mono _ _
      | exact place_Nodes.mono _ _
      | exact place_Peaks.mono _ _
      | exact LeO.none _
      | refine LeO.ite ?_ ?_
      | refine LeO.bind ?_ (fun _ => ?_)
set_option maxHeartbeats 8000000 in
set_option maxRecDepth 100000 in
theorem massiflaw03_PlacePeaks.calls (k : Nat) (a0 : Int) (r : Bool) (w : World) (h : massiflaw03_PlacePeaks.f k a0 = some r) :
    Calls Try.prog 8 #[.int .u64 a0] w fun e w' => e = .returned (.bool r) ∧ Below w.heap.size w w' := by
  have HB := Aside0.mk (Below.refl w.heap.size w)
  have H : ((massiflaw03_alive.f k).bind fun t166 => (if t166 = true then ((place_Peaks.f k a0).bind fun t167 => ((place_Nodes.f k a0).bind fun bt170 => (if a0 > 1099511627776 then (if (t167.length : Int) = 0 then (if bt170.2 = true then (some false) else (some (bt170.1 == 0))) else (some false)) else (massiflaw03_PlacePeaks.l0 k a0 t167 bt170.1 bt170.2 0 0 40)))) else (some false))) = some r := h
  clear h
  replace H := Option.bind_eq_some_iff.mp H
  obtain ⟨t166, A20, H⟩ := H
  replace H : (if t166 = true then ((place_Peaks.f k a0).bind fun t167 => ((place_Nodes.f k a0).bind fun bt170 => (if a0 > 1099511627776 then (if (t167.length : Int) = 0 then (if bt170.2 = true then (some false) else (some (bt170.1 == 0))) else (some false)) else (massiflaw03_PlacePeaks.l0 k a0 t167 bt170.1 bt170.2 0 0 40)))) else (some false)) = some r := H
  have A2 := Aside0.mk A20
  clear A20
  by_cases c3 : t166 = true
  · subst c3
    have H1 : ((place_Peaks.f k a0).bind fun t167 => ((place_Nodes.f k a0).bind fun bt170 => (if a0 > 1099511627776 then (if (t167.length : Int) = 0 then (if bt170.2 = true then (some false) else (some (bt170.1 == 0))) else (some false)) else (massiflaw03_PlacePeaks.l0 k a0 t167 bt170.1 bt170.2 0 0 40)))) = some r := by rw [if_pos rfl] at H; exact H
    clear H
    have H := H1
    clear H1
    replace H := Option.bind_eq_some_iff.mp H
    obtain ⟨t167, A40, H⟩ := H
    replace H : ((place_Nodes.f k a0).bind fun bt170 => (if a0 > 1099511627776 then (if (t167.length : Int) = 0 then (if bt170.2 = true then (some false) else (some (bt170.1 == 0))) else (some false)) else (massiflaw03_PlacePeaks.l0 k a0 t167 bt170.1 bt170.2 0 0 40))) = some r := H
    have A4 := Aside0.mk A40
    clear A40
    replace H := Option.bind_eq_some_iff.mp H
    obtain ⟨⟨t170, t171⟩, A50, H⟩ := H
    replace H : (if a0 > 1099511627776 then (if (t167.length : Int) = 0 then (if t171 = true then (some false) else (some (t170 == 0))) else (some false)) else (massiflaw03_PlacePeaks.l0 k a0 t167 t170 t171 0 0 40)) = some r := H
    have A5 := Aside0.mk A50
    clear A50
    by_cases c6 : a0 > 1099511627776
    · rw [if_pos c6] at H
      have c6b0 : decide (1099511627776 < a0) = true := decide_eq_true c6
      clear c6
      by_cases c7 : (t167.length : Int) = 0
      · rw [if_pos c7] at H
        have c7b0 : ((t167.length : Int) == 0) = true := beq_iff_eq.mpr c7
        have c7b1 : ((t167.length : Int) != 0) = false := bne_eq_false_iff_eq.mpr c7
        clear c7
        by_cases c8 : t171 = true
        · subst c8
          have H1 : (some false) = some r := by rw [if_pos rfl] at H; exact H
          clear H
          have H := H1
          clear H1
          obtain rfl := Option.some.inj H
          go_enter Try.func8, Try.ntmps8
          go_wp2_with (first | ((with_reducible refine gate_callee (f := 11) rfl ?_); refine goesL_ (some 11) rfl rfl Try.func11 (by kernel_rfl) rfl #[] rfl (by (try simp only [List.map_toArray, List.map_cons, List.map_nil]); first | done | rfl | (simp only [List.length_drop, List.length_take]; rfl)) ?_; (with_reducible refine (massiflaw03_alive.calls k  true _ A2.out).mono ?_); rintro e w9 ⟨rfl, hb⟩; refine ⟨_, rfl, ?_⟩; have n0_ := Aside0.mk (below_step (by repeat (first | (with_reducible first | exact HB.out | apply below_alloc | apply pw_below_drewN | apply below_drew1) | exact HB.out)) hb); clear HB; have HB := n0_; clear n0_; (try clear hb); (try clear hb2); (try clear hk); (try clear hi)) | ((with_reducible refine gate_callee (f := 19) rfl ?_); refine goesL_ (some 14) rfl rfl Try.func19 (by kernel_rfl) rfl #[.int .u64 a0] rfl (by (try simp only [List.map_toArray, List.map_cons, List.map_nil]); first | done | rfl | (simp only [List.length_drop, List.length_take]; rfl)) ?_; (with_reducible refine (place_Peaks.calls k a0 t167 _ A4.out).mono ?_); rintro e w10 ⟨v168, rfl, ho0, hb⟩; refine ⟨_, rfl, ?_⟩; have n0_ := Aside0.mk (Kd.R_lower ho0 (below_size (by repeat (first | (with_reducible first | exact HB.out | apply below_alloc | apply pw_below_drewN | apply below_drew1) | exact HB.out)))); have n1_ := Aside0.mk (below_step (by repeat (first | (with_reducible first | exact HB.out | apply below_alloc | apply pw_below_drewN | apply below_drew1) | exact HB.out)) hb); clear HB; have HO169 := n0_; have HB := n1_; clear n0_ n1_; (try clear hb); (try clear hb2); (try clear hk); (try clear hi); (try clear ho0)) | ((with_reducible refine gate_callee (f := 12) rfl ?_); refine goesL_ (some 17) rfl rfl Try.func12 (by kernel_rfl) rfl #[.int .u64 a0] rfl (by (try simp only [List.map_toArray, List.map_cons, List.map_nil]); first | done | rfl | (simp only [List.length_drop, List.length_take]; rfl)) ?_; (with_reducible refine (place_Nodes.calls k a0 t170 true _ A5.out).mono ?_); rintro e w' ⟨rfl, ⟨nd, rfl⟩⟩; refine ⟨_, rfl, ?_⟩; obtain ⟨Ao11, co11, eo11⟩ := Kd.R_slice HO169.out; subst eo11))
          go_ret
          exact ⟨by first | rfl | (simp [errW_none, errW_some] <;> rfl) | (simp [*, errW_none, errW_some] <;> rfl), by repeat (first | (with_reducible first | exact HB.out | apply below_alloc | apply pw_below_drewN | apply below_drew1) | exact HB.out)⟩
        · replace c8 := Bool.eq_false_iff.mpr c8
          subst c8
          have H1 : (some (t170 == 0)) = some r := by rw [if_neg (show ¬ (false = true) by decide)] at H; exact H
          clear H
          have H := H1
          clear H1
          obtain rfl := Option.some.inj H
          go_enter Try.func8, Try.ntmps8
          go_wp2_with (first | ((with_reducible refine gate_callee (f := 11) rfl ?_); refine goesL_ (some 11) rfl rfl Try.func11 (by kernel_rfl) rfl #[] rfl (by (try simp only [List.map_toArray, List.map_cons, List.map_nil]); first | done | rfl | (simp only [List.length_drop, List.length_take]; rfl)) ?_; (with_reducible refine (massiflaw03_alive.calls k  true _ A2.out).mono ?_); rintro e w12 ⟨rfl, hb⟩; refine ⟨_, rfl, ?_⟩; have n0_ := Aside0.mk (below_step (by repeat (first | (with_reducible first | exact HB.out | apply below_alloc | apply pw_below_drewN | apply below_drew1) | exact HB.out)) hb); clear HB; have HB := n0_; clear n0_; (try clear hb); (try clear hb2); (try clear hk); (try clear hi)) | ((with_reducible refine gate_callee (f := 19) rfl ?_); refine goesL_ (some 14) rfl rfl Try.func19 (by kernel_rfl) rfl #[.int .u64 a0] rfl (by (try simp only [List.map_toArray, List.map_cons, List.map_nil]); first | done | rfl | (simp only [List.length_drop, List.length_take]; rfl)) ?_; (with_reducible refine (place_Peaks.calls k a0 t167 _ A4.out).mono ?_); rintro e w13 ⟨v168, rfl, ho0, hb⟩; refine ⟨_, rfl, ?_⟩; have n0_ := Aside0.mk (Kd.R_lower ho0 (below_size (by repeat (first | (with_reducible first | exact HB.out | apply below_alloc | apply pw_below_drewN | apply below_drew1) | exact HB.out)))); have n1_ := Aside0.mk (below_step (by repeat (first | (with_reducible first | exact HB.out | apply below_alloc | apply pw_below_drewN | apply below_drew1) | exact HB.out)) hb); clear HB; have HO169 := n0_; have HB := n1_; clear n0_ n1_; (try clear hb); (try clear hb2); (try clear hk); (try clear hi); (try clear ho0)) | ((with_reducible refine gate_callee (f := 12) rfl ?_); refine goesL_ (some 17) rfl rfl Try.func12 (by kernel_rfl) rfl #[.int .u64 a0] rfl (by (try simp only [List.map_toArray, List.map_cons, List.map_nil]); first | done | rfl | (simp only [List.length_drop, List.length_take]; rfl)) ?_; (with_reducible refine (place_Nodes.calls k a0 t170 false _ A5.out).mono ?_); rintro e w' ⟨rfl, ⟨nd, rfl⟩⟩; refine ⟨_, rfl, ?_⟩; obtain ⟨Ao14, co14, eo14⟩ := Kd.R_slice HO169.out; subst eo14))
          go_ret
          exact ⟨by first | rfl | (simp [errW_none, errW_some] <;> rfl) | (simp [*, errW_none, errW_some] <;> rfl), by repeat (first | (with_reducible first | exact HB.out | apply below_alloc | apply pw_below_drewN | apply below_drew1) | exact HB.out)⟩
      · rw [if_neg c7] at H
        have c7b0 : ((t167.length : Int) == 0) = false := beq_eq_false_iff_ne.mpr c7
        have c7b1 : ((t167.length : Int) != 0) = true := bne_iff_ne.mpr c7
        have c7b2 : ¬ (t167 = []) := fun h_ => c7 (by rw [h_]; rfl)
        obtain rfl := Option.some.inj H
        go_enter Try.func8, Try.ntmps8
        go_wp2_with (first | ((with_reducible refine gate_callee (f := 11) rfl ?_); refine goesL_ (some 11) rfl rfl Try.func11 (by kernel_rfl) rfl #[] rfl (by (try simp only [List.map_toArray, List.map_cons, List.map_nil]); first | done | rfl | (simp only [List.length_drop, List.length_take]; rfl)) ?_; (with_reducible refine (massiflaw03_alive.calls k  true _ A2.out).mono ?_); rintro e w15 ⟨rfl, hb⟩; refine ⟨_, rfl, ?_⟩; have n0_ := Aside0.mk (below_step (by repeat (first | (with_reducible first | exact HB.out | apply below_alloc | apply pw_below_drewN | apply below_drew1) | exact HB.out)) hb); clear HB; have HB := n0_; clear n0_; (try clear hb); (try clear hb2); (try clear hk); (try clear hi)) | ((with_reducible refine gate_callee (f := 19) rfl ?_); refine goesL_ (some 14) rfl rfl Try.func19 (by kernel_rfl) rfl #[.int .u64 a0] rfl (by (try simp only [List.map_toArray, List.map_cons, List.map_nil]); first | done | rfl | (simp only [List.length_drop, List.length_take]; rfl)) ?_; (with_reducible refine (place_Peaks.calls k a0 t167 _ A4.out).mono ?_); rintro e w16 ⟨v168, rfl, ho0, hb⟩; refine ⟨_, rfl, ?_⟩; have n0_ := Aside0.mk (Kd.R_lower ho0 (below_size (by repeat (first | (with_reducible first | exact HB.out | apply below_alloc | apply pw_below_drewN | apply below_drew1) | exact HB.out)))); have n1_ := Aside0.mk (below_step (by repeat (first | (with_reducible first | exact HB.out | apply below_alloc | apply pw_below_drewN | apply below_drew1) | exact HB.out)) hb); clear HB; have HO169 := n0_; have HB := n1_; clear n0_ n1_; (try clear hb); (try clear hb2); (try clear hk); (try clear hi); (try clear ho0)) | ((with_reducible refine gate_callee (f := 12) rfl ?_); refine goesL_ (some 17) rfl rfl Try.func12 (by kernel_rfl) rfl #[.int .u64 a0] rfl (by (try simp only [List.map_toArray, List.map_cons, List.map_nil]); first | done | rfl | (simp only [List.length_drop, List.length_take]; rfl)) ?_; (with_reducible refine (place_Nodes.calls k a0 t170 t171 _ A5.out).mono ?_); rintro e w' ⟨rfl, ⟨nd, rfl⟩⟩; refine ⟨_, rfl, ?_⟩; obtain ⟨Ao17, co17, eo17⟩ := Kd.R_slice HO169.out; subst eo17))
        go_ret
        exact ⟨by first | rfl | (simp [errW_none, errW_some] <;> rfl) | (simp [*, errW_none, errW_some] <;> rfl), by repeat (first | (with_reducible first | exact HB.out | apply below_alloc | apply pw_below_drewN | apply below_drew1) | exact HB.out)⟩
    · rw [if_neg c6] at H
      have c6b0 : decide (1099511627776 < a0) = false := decide_eq_false c6
      clear c6
      have H' := Aside0.mk H
      clear H
      go_enter Try.func8, Try.ntmps8
      go_wp2_with (first | ((with_reducible refine gate_callee (f := 11) rfl ?_); refine goesL_ (some 11) rfl rfl Try.func11 (by kernel_rfl) rfl #[] rfl (by (try simp only [List.map_toArray, List.map_cons, List.map_nil]); first | done | rfl | (simp only [List.length_drop, List.length_take]; rfl)) ?_; (with_reducible refine (massiflaw03_alive.calls k  true _ A2.out).mono ?_); rintro e w18 ⟨rfl, hb⟩; refine ⟨_, rfl, ?_⟩; have n0_ := Aside0.mk (below_step (by repeat (first | (with_reducible first | exact HB.out | apply below_alloc | apply pw_below_drewN | apply below_drew1) | exact HB.out)) hb); clear HB; have HB := n0_; clear n0_; (try clear hb); (try clear hb2); (try clear hk); (try clear hi)) | ((with_reducible refine gate_callee (f := 19) rfl ?_); refine goesL_ (some 14) rfl rfl Try.func19 (by kernel_rfl) rfl #[.int .u64 a0] rfl (by (try simp only [List.map_toArray, List.map_cons, List.map_nil]); first | done | rfl | (simp only [List.length_drop, List.length_take]; rfl)) ?_; (with_reducible refine (place_Peaks.calls k a0 t167 _ A4.out).mono ?_); rintro e w19 ⟨v168, rfl, ho0, hb⟩; refine ⟨_, rfl, ?_⟩; have n0_ := Aside0.mk (Kd.R_lower ho0 (below_size (by repeat (first | (with_reducible first | exact HB.out | apply below_alloc | apply pw_below_drewN | apply below_drew1) | exact HB.out)))); have n1_ := Aside0.mk (below_step (by repeat (first | (with_reducible first | exact HB.out | apply below_alloc | apply pw_below_drewN | apply below_drew1) | exact HB.out)) hb); clear HB; have HO169 := n0_; have HB := n1_; clear n0_ n1_; (try clear hb); (try clear hb2); (try clear hk); (try clear hi); (try clear ho0)) | ((with_reducible refine gate_callee (f := 12) rfl ?_); refine goesL_ (some 17) rfl rfl Try.func12 (by kernel_rfl) rfl #[.int .u64 a0] rfl (by (try simp only [List.map_toArray, List.map_cons, List.map_nil]); first | done | rfl | (simp only [List.length_drop, List.length_take]; rfl)) ?_; (with_reducible refine (place_Nodes.calls k a0 t170 t171 _ A5.out).mono ?_); rintro e w' ⟨rfl, ⟨nd, rfl⟩⟩; refine ⟨_, rfl, ?_⟩))
      go_loopg [6, 7, 8] k (fun kq v6 v7 v8 w' => ∃ (x6_1 : Int) (x7_1 : Int) (x8_1 : Int), v6 = .int .u64 x6_1 ∧ v7 = .int .i64 x7_1 ∧ v8 = .int .i64 x8_1 ∧ Aside0 (massiflaw03_PlacePeaks.l0 kq a0 t167 t170 t171 x6_1 x7_1 x8_1 = some r) ∧ Aside0 (kq ≤ k) ∧ Aside0 (Kd.R (Kd.int .u64) 22 w' w.heap.size (fun _ => True) v168 t167) ∧ Aside0 (Below w.heap.size w w'))
      case atStart => exact ⟨(0), (0), (40), (by first | rfl | (simp; done) | (simp [*]; done)), (by first | rfl | (simp; done) | (simp [*]; done)), (by first | rfl | (simp; done) | (simp [*]; done)), H', ⟨Nat.le_refl _⟩, ⟨by (with_reducible repeat (first | apply Kd.R_alloc | apply Kd.R_drewN | apply Kd.R_drew)); exact HO169.out⟩, ⟨by repeat (first | (with_reducible first | exact HB.out | apply below_alloc | apply pw_below_drewN | apply below_drew1) | exact HB.out)⟩⟩
      case round =>
        clear H'
        try clear c1
        try clear p2
        try clear c3
        try clear c6
        try clear c6b0
        try clear c7
        try clear c7b0
        try clear c7b1
        try clear c7b2
        try clear c8
        try clear c11
        try clear c12
        try clear c19
        obtain ⟨x6_1, x7_1, x8_1, rfl, rfl, rfl, HA, HK1, HO_3, HB⟩ := hrel
        cases gk with
        | zero => exact absurd HA.out (by simp [massiflaw03_PlacePeaks.l0])
        | succ k1 =>
          have H := HA.out
          clear HA
          simp only [massiflaw03_PlacePeaks.l0] at H
          by_cases c20 : x8_1 ≥ 0
          · rw [if_pos c20] at H
            have c20b0 : decide (0 ≤ x8_1) = true := decide_eq_true c20
            clear c20
            obtain ⟨ji21, hji21⟩ : ∃ j_ : Int, (IntKind.u64.wrap (x8_1)) = j_ := ⟨_, rfl⟩
            replace H : (if 0 ≤ (ji21) then (if (Int.tmod (shr .u64 a0 (ji21)) 2) = 0 then (massiflaw03_PlacePeaks.l0 k1 a0 t167 t170 t171 x6_1 x7_1 (wrap64 (x8_1 - 1))) else (if x7_1 ≥ (t167.length : Int) then (massiflaw03_PlacePeaks.j1 k1 a0 t167 t170 t171 (IntKind.u64.wrap ((IntKind.u64.wrap (x6_1 + (shl .u64 2 (ji21)))) - 1)) x7_1 x8_1 true) else (if 0 ≤ x7_1 then (if x7_1 < (t167.length : Int) then (massiflaw03_PlacePeaks.j1 k1 a0 t167 t170 t171 (IntKind.u64.wrap ((IntKind.u64.wrap (x6_1 + (shl .u64 2 (ji21)))) - 1)) x7_1 x8_1 ((rd t167 x7_1) != (IntKind.u64.wrap ((IntKind.u64.wrap ((IntKind.u64.wrap (x6_1 + (shl .u64 2 (ji21)))) - 1)) - 1)))) else (none)) else (none)))) else (none)) = some r := by first | (rw [hji21] at H; exact H) | (simp only [hji21] at H ⊢; exact H)
            by_cases c22 : 0 ≤ (ji21)
            · rw [if_pos c22] at H
              have c22b0 := eq_true c22
              have c22b1 : decide (0 ≤ (ji21)) = true := decide_eq_true c22
              clear c22
              obtain ⟨ji23, hji23⟩ : ∃ j_ : Int, (shr .u64 a0 (ji21)) = j_ := ⟨_, rfl⟩
              replace H : (if (Int.tmod (ji23) 2) = 0 then (massiflaw03_PlacePeaks.l0 k1 a0 t167 t170 t171 x6_1 x7_1 (wrap64 (x8_1 - 1))) else (if x7_1 ≥ (t167.length : Int) then (massiflaw03_PlacePeaks.j1 k1 a0 t167 t170 t171 (IntKind.u64.wrap ((IntKind.u64.wrap (x6_1 + (shl .u64 2 (ji21)))) - 1)) x7_1 x8_1 true) else (if 0 ≤ x7_1 then (if x7_1 < (t167.length : Int) then (massiflaw03_PlacePeaks.j1 k1 a0 t167 t170 t171 (IntKind.u64.wrap ((IntKind.u64.wrap (x6_1 + (shl .u64 2 (ji21)))) - 1)) x7_1 x8_1 ((rd t167 x7_1) != (IntKind.u64.wrap ((IntKind.u64.wrap ((IntKind.u64.wrap (x6_1 + (shl .u64 2 (ji21)))) - 1)) - 1)))) else (none)) else (none)))) = some r := by first | (rw [hji23] at H; exact H) | (simp only [hji23] at H ⊢; exact H)
              have hji23_ : (a0 / 2 ^ min (ji21).toNat 64) = ji23 := hji23
              have hji23z : (ji21) ≤ 64 → (a0 / 2 ^ (ji21).toNat) = ji23 := shr_small hji23
              by_cases c24 : (Int.tmod (ji23) 2) = 0
              · rw [if_pos c24] at H
                have c24b0 : ((Int.tmod (ji23) 2) == 0) = true := beq_iff_eq.mpr c24
                have c24b1 : ((Int.tmod (ji23) 2) != 0) = false := bne_eq_false_iff_eq.mpr c24
                clear c24
                have H' := Aside0.mk H
                clear H
                go_wp2
                go_roundg k1
                case measure => have := HK1.out; omega
                case rel => exact ⟨(x6_1), (x7_1), (wrap64 (x8_1 - 1)), (by first | rfl | (simp; done) | (simp [*]; done)), (by first | rfl | (simp; done) | (simp [*]; done)), (by first | rfl | (simp; done) | (simp [*]; done)), H', ⟨by have := HK1.out; omega⟩, ⟨by (with_reducible repeat (first | apply Kd.R_alloc | apply Kd.R_drewN | apply Kd.R_drew)); exact HO_3.out⟩, ⟨by repeat (first | (with_reducible first | exact HB.out | apply below_alloc | apply pw_below_drewN | apply below_drew1) | exact HB.out)⟩⟩
              · rw [if_neg c24] at H
                have c24b0 : ((Int.tmod (ji23) 2) == 0) = false := beq_eq_false_iff_ne.mpr c24
                have c24b1 : ((Int.tmod (ji23) 2) != 0) = true := bne_iff_ne.mpr c24
                have c25b0 := eq_true (of_decide_eq_true (by first | (with_reducible assumption) | assumption) : 0 ≤ (ji21))
                obtain ⟨ji26, hji26⟩ : ∃ j_ : Int, (shl .u64 2 (ji21)) = j_ := ⟨_, rfl⟩
                replace H : (if x7_1 ≥ (t167.length : Int) then (massiflaw03_PlacePeaks.j1 k1 a0 t167 t170 t171 (IntKind.u64.wrap ((IntKind.u64.wrap (x6_1 + (ji26))) - 1)) x7_1 x8_1 true) else (if 0 ≤ x7_1 then (if x7_1 < (t167.length : Int) then (massiflaw03_PlacePeaks.j1 k1 a0 t167 t170 t171 (IntKind.u64.wrap ((IntKind.u64.wrap (x6_1 + (ji26))) - 1)) x7_1 x8_1 ((rd t167 x7_1) != (IntKind.u64.wrap ((IntKind.u64.wrap ((IntKind.u64.wrap (x6_1 + (ji26))) - 1)) - 1)))) else (none)) else (none))) = some r := by first | (rw [hji26] at H; exact H) | (simp only [hji26] at H ⊢; exact H)
                have hji26_ : (IntKind.u64.wrap (2 * 2 ^ min (ji21).toNat 64)) = ji26 := hji26
                have hji26z : (ji21) ≤ 64 → (IntKind.u64.wrap (2 * 2 ^ (ji21).toNat)) = ji26 := shl_small hji26
                have HC27 := Aside0.mk H
                clear H
                go_upto_region 14 with (fail)
                go_cut [61] (fun v61 wc => ∃ (kq : Nat) (x61_26 : Bool), v61 = .bool x61_26 ∧ Aside0 (massiflaw03_PlacePeaks.j1 kq a0 t167 t170 t171 (IntKind.u64.wrap ((IntKind.u64.wrap (x6_1 + (ji26))) - 1)) x7_1 x8_1 x61_26 = some r) ∧ Aside0 (kq ≤ k1) ∧ Aside0 (Kd.R (Kd.int .u64) 22 wc w.heap.size (fun _ => True) v168 t167) ∧ Aside0 (Below w.heap.size w wc))
                case first =>
                  have H := HC27.out
                  clear HC27
                  by_cases c28 : x7_1 ≥ (t167.length : Int)
                  · rw [if_pos c28] at H
                    have c28b0 : decide ((t167.length : Int) ≤ x7_1) = true := decide_eq_true c28
                    clear c28
                    (first | rw [c28b0] | (simp only [i64_w, i32_w]; rw [c28b0]) | skip)
                    have H' := Aside0.mk H
                    clear H
                    obtain ⟨Ao29, co29, eo29⟩ := Kd.R_slice HO_3.out
                    subst eo29
                    go_wp2
                    go_meet
                    case rel => exact ⟨_, (true), (by first | rfl | (simp; done) | (simp [*]; done)), H', ⟨by have := HK1.out; first | omega | exact Nat.le_refl _⟩, ⟨by (with_reducible repeat (first | apply Kd.R_alloc | apply Kd.R_drewN | apply Kd.R_drew)); exact HO_3.out⟩, ⟨by repeat (first | (with_reducible first | exact HB.out | apply below_alloc | apply pw_below_drewN | apply below_drew1) | exact HB.out)⟩⟩
                  · rw [if_neg c28] at H
                    have c28b0 : decide ((t167.length : Int) ≤ x7_1) = false := decide_eq_false c28
                    clear c28
                    (first | rw [c28b0] | (simp only [i64_w, i32_w]; rw [c28b0]) | skip)
                    by_cases c30 : 0 ≤ x7_1
                    · rw [if_pos c30] at H
                      have c30b0 : decide (0 ≤ x7_1) = true := decide_eq_true c30
                      clear c30
                      by_cases c31 : x7_1 < (t167.length : Int)
                      · rw [if_pos c31] at H
                        have c31b0 : decide (x7_1 < (t167.length : Int)) = true := decide_eq_true c31
                        clear c31
                        have H' := Aside0.mk H
                        clear H
                        obtain ⟨Ao32, co32, eo32⟩ := Kd.R_slice HO_3.out
                        subst eo32
                        have p172 : 0 ≤ (x7_1 : Int) := of_decide_eq_true (by first | (with_reducible assumption) | assumption)
                        have q172 : x7_1 < (t167.length : Int) := of_decide_eq_true (by first | (with_reducible assumption) | assumption)
                        obtain ⟨ad172, e172, hx172_0⟩ := Kd.at_int (Kd.R_reads' HO_3.out).2.2 x7_1 p172 q172
                        cases e172
                        replace p172 := eq_true p172
                        replace q172 := eq_true q172
                        go_wp2
                        go_meet
                        case rel => exact ⟨_, (((rd t167 x7_1) != (IntKind.u64.wrap ((IntKind.u64.wrap ((IntKind.u64.wrap (x6_1 + (ji26))) - 1)) - 1)))), (by first | rfl | (simp; done) | (simp only [← hji26] <;> (first | rfl | simp)) | (simp [*]; done)), H', ⟨by have := HK1.out; first | omega | exact Nat.le_refl _⟩, ⟨by (with_reducible repeat (first | apply Kd.R_alloc | apply Kd.R_drewN | apply Kd.R_drew)); exact HO_3.out⟩, ⟨by repeat (first | (with_reducible first | exact HB.out | apply below_alloc | apply pw_below_drewN | apply below_drew1) | exact HB.out)⟩⟩
                      · rw [if_neg c31] at H
                        exact absurd H (by simp)
                    · rw [if_neg c30] at H
                      exact absurd H (by simp)
                case rest =>
                  clear HC27
                  try clear c1
                  try clear p1
                  try clear q1
                  try clear hx1
                  try clear c2
                  try clear p2
                  try clear c3
                  try clear c6
                  try clear c6b0
                  try clear p6
                  try clear c7
                  try clear c7b0
                  try clear c7b1
                  try clear c7b2
                  try clear c8
                  try clear c11
                  try clear c12
                  try clear p17
                  try clear q17
                  try clear hx17
                  try clear c19
                  try clear c20
                  try clear c20b0
                  try clear c22
                  try clear c22b0
                  try clear c22b1
                  try clear c24
                  try clear c24b0
                  try clear c24b1
                  try clear c25
                  try clear c25b0
                  try clear c28
                  try clear c28b0
                  try clear c30
                  try clear c30b0
                  try clear c31
                  try clear c31b0
                  try clear hx172_0
                  try clear p172
                  try clear p2
                  try clear q172
                  obtain ⟨kq, x61_26, rfl, HA, HJ26, HO_3, HB⟩ := hcut
                  cases kq with
                  | zero => exact absurd HA.out (by simp [massiflaw03_PlacePeaks.j1])
                  | succ kj26 =>
                    have H := HA.out
                    clear HA
                    simp only [massiflaw03_PlacePeaks.j1] at H
                    by_cases c33 : x61_26 = true
                    · subst c33
                      have H1 : (some false) = some r := by rw [if_pos rfl] at H; exact H
                      clear H
                      have H := H1
                      clear H1
                      obtain rfl := Option.some.inj H
                      go_wp2
                      go_ret
                      exact ⟨by first | rfl | (simp [errW_none, errW_some] <;> rfl) | (simp only [← hji21, ← hji23, ← hji26]; first | rfl | (simp [errW_none, errW_some] <;> rfl)) | (simp [*, errW_none, errW_some] <;> rfl), by repeat (first | (with_reducible first | exact HB.out | apply below_alloc | apply pw_below_drewN | apply below_drew1) | exact HB.out)⟩
                    · replace c33 := Bool.eq_false_iff.mpr c33
                      subst c33
                      have H1 : (if 0 ≤ x7_1 then (if x7_1 < (t167.length : Int) then ((place_Height.f kj26 (rd t167 x7_1)).bind fun bt174 => (if bt174.2 = true then (if bt174.1 = x8_1 then (massiflaw03_PlacePeaks.l0 kj26 a0 t167 t170 t171 (IntKind.u64.wrap ((IntKind.u64.wrap (x6_1 + (ji26))) - 1)) (wrap64 (x7_1 + 1)) (wrap64 (x8_1 - 1))) else (some false)) else (some false))) else (none)) else (none)) = some r := by rw [if_neg (show ¬ (false = true) by decide)] at H; exact H
                      clear H
                      have H := H1
                      clear H1
                      by_cases c34 : 0 ≤ x7_1
                      · rw [if_pos c34] at H
                        have c34b0 : decide (0 ≤ x7_1) = true := decide_eq_true c34
                        clear c34
                        by_cases c35 : x7_1 < (t167.length : Int)
                        · rw [if_pos c35] at H
                          have c35b0 : decide (x7_1 < (t167.length : Int)) = true := decide_eq_true c35
                          clear c35
                          replace H := Option.bind_eq_some_iff.mp H
                          obtain ⟨⟨t174, t175⟩, A360, H⟩ := H
                          replace H : (if t175 = true then (if t174 = x8_1 then (massiflaw03_PlacePeaks.l0 kj26 a0 t167 t170 t171 (IntKind.u64.wrap ((IntKind.u64.wrap (x6_1 + (ji26))) - 1)) (wrap64 (x7_1 + 1)) (wrap64 (x8_1 - 1))) else (some false)) else (some false)) = some r := H
                          have A36 := Aside0.mk A360
                          clear A360
                          by_cases c37 : t175 = true
                          · subst c37
                            have H1 : (if t174 = x8_1 then (massiflaw03_PlacePeaks.l0 kj26 a0 t167 t170 t171 (IntKind.u64.wrap ((IntKind.u64.wrap (x6_1 + (ji26))) - 1)) (wrap64 (x7_1 + 1)) (wrap64 (x8_1 - 1))) else (some false)) = some r := by rw [if_pos rfl] at H; exact H
                            clear H
                            have H := H1
                            clear H1
                            by_cases c38 : t174 = x8_1
                            · rw [if_pos c38] at H
                              have c38b0 : (t174 == x8_1) = true := beq_iff_eq.mpr c38
                              have c38b1 : (t174 != x8_1) = false := bne_eq_false_iff_eq.mpr c38
                              clear c38
                              have H' := Aside0.mk H
                              clear H
                              obtain ⟨Ao39, co39, eo39⟩ := Kd.R_slice HO_3.out
                              subst eo39
                              have p173 : 0 ≤ (x7_1 : Int) := of_decide_eq_true (by first | (with_reducible assumption) | assumption)
                              have q173 : x7_1 < (t167.length : Int) := of_decide_eq_true (by first | (with_reducible assumption) | assumption)
                              obtain ⟨ad173, e173, hx173_0⟩ := Kd.at_int (Kd.R_reads' HO_3.out).2.2 x7_1 p173 q173
                              cases e173
                              replace p173 := eq_true p173
                              replace q173 := eq_true q173
                              go_wp2_with (first | ((with_reducible refine gate_callee (f := 23) rfl ?_); refine goesL_ (some 67) rfl rfl Try.func23 (by kernel_rfl) rfl #[.int .u64 (rd t167 x7_1)] rfl (by (try simp only [List.map_toArray, List.map_cons, List.map_nil]); first | done | rfl | (simp only [List.length_drop, List.length_take]; rfl)) ?_; (with_reducible refine (place_Height.calls kj26 (rd t167 x7_1) t174 true _ A36.out).mono ?_); rintro e w40 ⟨rfl, hb⟩; refine ⟨_, rfl, ?_⟩; have n0_ := Aside0.mk (Kd.R_below (by (with_reducible repeat (first | apply Kd.R_alloc | apply Kd.R_drewN | apply Kd.R_drew)); exact HO_3.out) hb); have n1_ := Aside0.mk (below_step (by repeat (first | (with_reducible first | exact HB.out | apply below_alloc | apply pw_below_drewN | apply below_drew1) | exact HB.out)) hb); clear HO_3; clear HB; have HO_3 := n0_; have HB := n1_; clear n0_ n1_; (try clear hb); (try clear hb2); (try clear hk); (try clear hi)))
                              go_roundg kj26
                              case measure => have := HK1.out; have := HJ26.out; omega
                              case rel => exact ⟨((IntKind.u64.wrap ((IntKind.u64.wrap (x6_1 + (ji26))) - 1))), (wrap64 (x7_1 + 1)), (wrap64 (x8_1 - 1)), (by first | rfl | (simp; done) | (simp only [← hji26] <;> (first | rfl | simp)) | (simp [*]; done)), (by first | rfl | (simp; done) | (simp [*]; done)), (by first | rfl | (simp; done) | (simp [*]; done)), H', ⟨by have := HK1.out; have := HJ26.out; omega⟩, ⟨by (with_reducible repeat (first | apply Kd.R_alloc | apply Kd.R_drewN | apply Kd.R_drew)); exact HO_3.out⟩, ⟨by repeat (first | (with_reducible first | exact HB.out | apply below_alloc | apply pw_below_drewN | apply below_drew1) | exact HB.out)⟩⟩
                            · rw [if_neg c38] at H
                              have c38b0 : (t174 == x8_1) = false := beq_eq_false_iff_ne.mpr c38
                              have c38b1 : (t174 != x8_1) = true := bne_iff_ne.mpr c38
                              obtain rfl := Option.some.inj H
                              obtain ⟨Ao41, co41, eo41⟩ := Kd.R_slice HO_3.out
                              subst eo41
                              have p173 : 0 ≤ (x7_1 : Int) := of_decide_eq_true (by first | (with_reducible assumption) | assumption)
                              have q173 : x7_1 < (t167.length : Int) := of_decide_eq_true (by first | (with_reducible assumption) | assumption)
                              obtain ⟨ad173, e173, hx173_0⟩ := Kd.at_int (Kd.R_reads' HO_3.out).2.2 x7_1 p173 q173
                              cases e173
                              replace p173 := eq_true p173
                              replace q173 := eq_true q173
                              go_wp2_with (first | ((with_reducible refine gate_callee (f := 23) rfl ?_); refine goesL_ (some 67) rfl rfl Try.func23 (by kernel_rfl) rfl #[.int .u64 (rd t167 x7_1)] rfl (by (try simp only [List.map_toArray, List.map_cons, List.map_nil]); first | done | rfl | (simp only [List.length_drop, List.length_take]; rfl)) ?_; (with_reducible refine (place_Height.calls kj26 (rd t167 x7_1) t174 true _ A36.out).mono ?_); rintro e w42 ⟨rfl, hb⟩; refine ⟨_, rfl, ?_⟩; have n0_ := Aside0.mk (Kd.R_below (by (with_reducible repeat (first | apply Kd.R_alloc | apply Kd.R_drewN | apply Kd.R_drew)); exact HO_3.out) hb); have n1_ := Aside0.mk (below_step (by repeat (first | (with_reducible first | exact HB.out | apply below_alloc | apply pw_below_drewN | apply below_drew1) | exact HB.out)) hb); clear HO_3; clear HB; have HO_3 := n0_; have HB := n1_; clear n0_ n1_; (try clear hb); (try clear hb2); (try clear hk); (try clear hi)))
                              go_ret
                              exact ⟨by first | rfl | (simp [errW_none, errW_some] <;> rfl) | (simp only [← hji21, ← hji23, ← hji26]; first | rfl | (simp [errW_none, errW_some] <;> rfl)) | (simp [*, errW_none, errW_some] <;> rfl), by repeat (first | (with_reducible first | exact HB.out | apply below_alloc | apply pw_below_drewN | apply below_drew1) | exact HB.out)⟩
                          · replace c37 := Bool.eq_false_iff.mpr c37
                            subst c37
                            have H1 : (some false) = some r := by rw [if_neg (show ¬ (false = true) by decide)] at H; exact H
                            clear H
                            have H := H1
                            clear H1
                            obtain rfl := Option.some.inj H
                            obtain ⟨Ao43, co43, eo43⟩ := Kd.R_slice HO_3.out
                            subst eo43
                            have p173 : 0 ≤ (x7_1 : Int) := of_decide_eq_true (by first | (with_reducible assumption) | assumption)
                            have q173 : x7_1 < (t167.length : Int) := of_decide_eq_true (by first | (with_reducible assumption) | assumption)
                            obtain ⟨ad173, e173, hx173_0⟩ := Kd.at_int (Kd.R_reads' HO_3.out).2.2 x7_1 p173 q173
                            cases e173
                            replace p173 := eq_true p173
                            replace q173 := eq_true q173
                            go_wp2_with (first | ((with_reducible refine gate_callee (f := 23) rfl ?_); refine goesL_ (some 67) rfl rfl Try.func23 (by kernel_rfl) rfl #[.int .u64 (rd t167 x7_1)] rfl (by (try simp only [List.map_toArray, List.map_cons, List.map_nil]); first | done | rfl | (simp only [List.length_drop, List.length_take]; rfl)) ?_; (with_reducible refine (place_Height.calls kj26 (rd t167 x7_1) t174 false _ A36.out).mono ?_); rintro e w44 ⟨rfl, hb⟩; refine ⟨_, rfl, ?_⟩; have n0_ := Aside0.mk (Kd.R_below (by (with_reducible repeat (first | apply Kd.R_alloc | apply Kd.R_drewN | apply Kd.R_drew)); exact HO_3.out) hb); have n1_ := Aside0.mk (below_step (by repeat (first | (with_reducible first | exact HB.out | apply below_alloc | apply pw_below_drewN | apply below_drew1) | exact HB.out)) hb); clear HO_3; clear HB; have HO_3 := n0_; have HB := n1_; clear n0_ n1_; (try clear hb); (try clear hb2); (try clear hk); (try clear hi)))
                            go_ret
                            exact ⟨by first | rfl | (simp [errW_none, errW_some] <;> rfl) | (simp only [← hji21, ← hji23, ← hji26]; first | rfl | (simp [errW_none, errW_some] <;> rfl)) | (simp [*, errW_none, errW_some] <;> rfl), by repeat (first | (with_reducible first | exact HB.out | apply below_alloc | apply pw_below_drewN | apply below_drew1) | exact HB.out)⟩
                        · rw [if_neg c35] at H
                          exact absurd H (by simp)
                      · rw [if_neg c34] at H
                        exact absurd H (by simp)
            · rw [if_neg c22] at H
              exact absurd H (by simp)
          · rw [if_neg c20] at H
            have c20b0 : decide (0 ≤ x8_1) = false := decide_eq_false c20
            clear c20
            by_cases c45 : x7_1 = (t167.length : Int)
            · rw [if_pos c45] at H
              have c45b0 : (x7_1 == (t167.length : Int)) = true := beq_iff_eq.mpr c45
              have c45b1 : (x7_1 != (t167.length : Int)) = false := bne_eq_false_iff_eq.mpr c45
              clear c45
              by_cases c46 : t171 = true
              · subst c46
                have H1 : (some (x6_1 == t170)) = some r := by rw [if_pos rfl] at H; exact H
                clear H
                have H := H1
                clear H1
                obtain rfl := Option.some.inj H
                obtain ⟨Ao47, co47, eo47⟩ := Kd.R_slice HO_3.out
                subst eo47
                go_wp2
                go_ret
                exact ⟨by first | rfl | (simp [errW_none, errW_some] <;> rfl) | (simp [*, errW_none, errW_some] <;> rfl), by repeat (first | (with_reducible first | exact HB.out | apply below_alloc | apply pw_below_drewN | apply below_drew1) | exact HB.out)⟩
              · replace c46 := Bool.eq_false_iff.mpr c46
                subst c46
                have H1 : (some false) = some r := by rw [if_neg (show ¬ (false = true) by decide)] at H; exact H
                clear H
                have H := H1
                clear H1
                obtain rfl := Option.some.inj H
                obtain ⟨Ao48, co48, eo48⟩ := Kd.R_slice HO_3.out
                subst eo48
                go_wp2
                go_ret
                exact ⟨by first | rfl | (simp [errW_none, errW_some] <;> rfl) | (simp [*, errW_none, errW_some] <;> rfl), by repeat (first | (with_reducible first | exact HB.out | apply below_alloc | apply pw_below_drewN | apply below_drew1) | exact HB.out)⟩
            · rw [if_neg c45] at H
              have c45b0 : (x7_1 == (t167.length : Int)) = false := beq_eq_false_iff_ne.mpr c45
              have c45b1 : (x7_1 != (t167.length : Int)) = true := bne_iff_ne.mpr c45
              obtain rfl := Option.some.inj H
              obtain ⟨Ao49, co49, eo49⟩ := Kd.R_slice HO_3.out
              subst eo49
              go_wp2
              go_ret
              exact ⟨by first | rfl | (simp [errW_none, errW_some] <;> rfl) | (simp [*, errW_none, errW_some] <;> rfl), by repeat (first | (with_reducible first | exact HB.out | apply below_alloc | apply pw_below_drewN | apply below_drew1) | exact HB.out)⟩
  · replace c3 := Bool.eq_false_iff.mpr c3
    subst c3
    have H1 : (some false) = some r := by rw [if_neg (show ¬ (false = true) by decide)] at H; exact H
    clear H
    have H := H1
    clear H1
    obtain rfl := Option.some.inj H
    go_enter Try.func8, Try.ntmps8
    go_wp2_with (first | ((with_reducible refine gate_callee (f := 11) rfl ?_); refine goesL_ (some 11) rfl rfl Try.func11 (by kernel_rfl) rfl #[] rfl (by (try simp only [List.map_toArray, List.map_cons, List.map_nil]); first | done | rfl | (simp only [List.length_drop, List.length_take]; rfl)) ?_; (with_reducible refine (massiflaw03_alive.calls k  false _ A2.out).mono ?_); rintro e w50 ⟨rfl, hb⟩; refine ⟨_, rfl, ?_⟩; have n0_ := Aside0.mk (below_step (by repeat (first | (with_reducible first | exact HB.out | apply below_alloc | apply pw_below_drewN | apply below_drew1) | exact HB.out)) hb); clear HB; have HB := n0_; clear n0_; (try clear hb); (try clear hb2); (try clear hk); (try clear hi)))
    go_ret
    exact ⟨by first | rfl | (simp [errW_none, errW_some] <;> rfl) | (simp [*, errW_none, errW_some] <;> rfl), by repeat (first | (with_reducible first | exact HB.out | apply below_alloc | apply pw_below_drewN | apply below_drew1) | exact HB.out)⟩

/-- THE ONE PURE STATEMENT of massiflaw03_PlacePeaks: yours. -/
def massiflaw03_PlacePeaks.Pure : Prop := ∀ (a0 : Int), (Lit.int .u64 a0).wf = true → ∃ k, massiflaw03_PlacePeaks.f k a0 = some true
theorem massiflaw03_PlacePeaks.walk (P : massiflaw03_PlacePeaks.Pure) (a0 : Int) (w : World) (w0 : (Lit.int .u64 a0).wf = true) :
    Calls Try.prog 8 #[.int .u64 a0] w fun e w' => e = .returned (.bool true) ∧ Below w.heap.size w w' := by
  obtain ⟨k, h⟩ := P a0 w0
  refine (massiflaw03_PlacePeaks.calls k a0 true w h).mono ?_
  rintro e w' ⟨rfl, hd⟩
  exact ⟨rfl, hd⟩

end Go.Proofs.Ytlbehenaoiddkaa.PPlacePeaks
