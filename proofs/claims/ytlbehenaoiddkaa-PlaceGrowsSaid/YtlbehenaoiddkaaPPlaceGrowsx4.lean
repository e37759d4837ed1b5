-- PRINTED BY print.sh 35421559b90ae4d0a3588c463048766b98c2df88dd9212a6774a882060cdf62d: not written by this session
import Derived.Test.YtlbehenaoiddkaaPPlaceGrowsx0
import Derived.Test.YtlbehenaoiddkaaPPlaceGrowsx1
import Derived.Test.YtlbehenaoiddkaaPPlaceGrowsx2
import Derived.Test.YtlbehenaoiddkaaPPlaceGrowsx3
namespace Go.Proofs.Ytlbehenaoiddkaa.PPlaceGrows
open Go.RowKit Go.Proofs.YtlbehenaoiddkaaW.PrintWords Go.Proofs.YtlbehenaoiddkaaW.PrintLast Go.Proofs.YtlbehenaoiddkaaW.PrintMore
attribute [local go_sem] max2_int min2_int max_two min_two max_three min_three max_four min_four   -- for this text's walks alone
set_option linter.unusedVariables false
set_option linter.unusedSimpArgs false

attribute [local go_sem high] eqA24
/-! ### massiflaw03_PlaceGrows: function 7 -/
mutual
def massiflaw03_PlaceGrows.j0 : Nat → Int → Int → Int → Bool → Option (Bool)
  | 0, _, _, _, _ => none
  | k + 1, x0, x3, x7, x78 => if x78 = true then (some false) else (massiflaw03_PlaceGrows.l0 k x0 x3 x7 0)
def massiflaw03_PlaceGrows.l0 : Nat → Int → Int → Int → Int → Option (Bool)
  | 0, _, _, _, _ => none
  | k + 1, x0, x3, x7, x11 => (massiflaw03_trail.f k x0).bind fun t176 => (if x11 ≤ t176 then ((place_Block.f k (IntKind.u64.wrap (x3 + x11))).bind fun bt177 => (if bt177.2.2 = true then (if 0 ≤ x11 then (if (!(bt177.1 == (wrap64 (x11))) || (!(bt177.2.1 == (shr .u64 x0 x11)))) = true then (some false) else (massiflaw03_PlaceGrows.l0 k x0 x3 x7 (IntKind.u64.wrap (x11 + 1)))) else (none)) else (some false))) else ((place_Peaks.f k (IntKind.u64.wrap (x0 + 1))).bind fun t181 => (if (t181.length : Int) > 0 then (if 0 ≤ (wrap64 ((t181.length : Int) - 1)) then (if (wrap64 ((t181.length : Int) - 1)) < (t181.length : Int) then (some ((rd t181 (wrap64 ((t181.length : Int) - 1))) == (IntKind.u64.wrap (x7 - 1)))) else (none)) else (none)) else (some false))))
end
def massiflaw03_PlaceGrows.f (k : Nat) (a0 : Int) : Option (Bool) := (massiflaw03_alive.f k).bind fun t166 => (if t166 = true then ((place_Nodes.f k a0).bind fun bt167 => (if a0 ≥ 1099511627776 then ((place_Leaf.f k a0).bind fun bt169 => (if (bt167.2 == (a0 == 1099511627776)) = true then (if bt169.2 = true then (some false) else (if bt167.2 = true then (some true) else (some (bt167.1 == 0)))) else (some false))) else ((place_Nodes.f k (IntKind.u64.wrap (a0 + 1))).bind fun bt171 => ((place_Leaf.f k a0).bind fun bt173 => (if bt167.2 = true then (if bt171.2 = true then (if bt173.2 = true then (if bt173.1 = bt167.1 then ((massiflaw03_trail.f k a0).bind fun t175 => (massiflaw03_PlaceGrows.j0 k a0 bt167.1 bt171.1 (bt171.1 != (IntKind.u64.wrap ((IntKind.u64.wrap (bt167.1 + 1)) + t175))))) else (massiflaw03_PlaceGrows.j0 k a0 bt167.1 bt171.1 true)) else (massiflaw03_PlaceGrows.j0 k a0 bt167.1 bt171.1 true)) else (massiflaw03_PlaceGrows.j0 k a0 bt167.1 bt171.1 true)) else (massiflaw03_PlaceGrows.j0 k a0 bt167.1 bt171.1 true)))))) else (some false))
theorem massiflaw03_PlaceGrows.mono_l : ∀ k, (∀ y0 y1 y2 y3, LeO (massiflaw03_PlaceGrows.j0 k y0 y1 y2 y3) (massiflaw03_PlaceGrows.j0 (k + 1) y0 y1 y2 y3)) ∧ (∀ y0 y1 y2 y3, LeO (massiflaw03_PlaceGrows.l0 k y0 y1 y2 y3) (massiflaw03_PlaceGrows.l0 (k + 1) y0 y1 y2 y3))
  | 0 => ⟨fun _ _ _ _ r h => by simp [massiflaw03_PlaceGrows.j0] at h, fun _ _ _ _ r h => by simp [massiflaw03_PlaceGrows.l0] at h⟩
  | k + 1 => by
    obtain ⟨ih0, ih1⟩ := massiflaw03_PlaceGrows.mono_l k
    refine ⟨?_, ?_⟩
    · intro y0 y1 y2 y3
      unfold massiflaw03_PlaceGrows.j0
      repeat' first
      | (with_reducible exact ih0 _ _ _ _)
      | (with_reducible exact ih1 _ _ _ _)
      | (with_reducible exact massiflaw03_alive.mono _)
      | (with_reducible exact massiflaw03_trail.mono _ _)
      | (with_reducible exact place_Block.mono _ _)
      | (with_reducible exact place_Leaf.mono _ _)
      | (with_reducible exact place_Nodes.mono _ _)
      | (with_reducible exact place_Peaks.mono _ _)
      | (with_reducible exact LeO.refl _)
      | (with_reducible exact LeO.none _)
      | (with_reducible refine LeO.ite ?_ ?_)
      | (with_reducible refine LeO.bind ?_ (fun _ => ?_))
      | exact ih0 _ _ _ _
      | exact ih1 _ _ _ _
      | exact massiflaw03_alive.mono _
      | exact massiflaw03_trail.mono _ _
      | exact place_Block.mono _ _
      | exact place_Leaf.mono _ _
      | exact place_Nodes.mono _ _
      | exact place_Peaks.mono _ _
      | exact LeO.none _
      | refine LeO.ite ?_ ?_
      | refine LeO.bind ?_ (fun _ => ?_)
    · intro y0 y1 y2 y3
      unfold massiflaw03_PlaceGrows.l0
      repeat' first
      | (with_reducible exact ih0 _ _ _ _)
      | (with_reducible exact ih1 _ _ _ _)
      | (with_reducible exact massiflaw03_alive.mono _)
      | (with_reducible exact massiflaw03_trail.mono _ _)
      | (with_reducible exact place_Block.mono _ _)
      | (with_reducible exact place_Leaf.mono _ _)
      | (with_reducible exact place_Nodes.mono _ _)
      | (with_reducible exact place_Peaks.mono _ _)
      | (with_reducible exact LeO.refl _)
      | (with_reducible exact LeO.none _)
      | (with_reducible refine LeO.ite ?_ ?_)
      | (with_reducible refine LeO.bind ?_ (fun _ => ?_))
      | exact ih0 _ _ _ _
      | exact ih1 _ _ _ _
      | exact massiflaw03_alive.mono _
      | exact massiflaw03_trail.mono _ _
      | exact place_Block.mono _ _
      | exact place_Leaf.mono _ _
      | exact place_Nodes.mono _ _
      | exact place_Peaks.mono _ _
      | exact LeO.none _
      | refine LeO.ite ?_ ?_
      | refine LeO.bind ?_ (fun _ => ?_)
theorem massiflaw03_PlaceGrows.mono : ∀ a0 k, LeO (massiflaw03_PlaceGrows.f k a0) (massiflaw03_PlaceGrows.f (k + 1) a0) := by
  intro a0 k
  obtain ⟨ih0, ih1⟩ := massiflaw03_PlaceGrows.mono_l k
  unfold massiflaw03_PlaceGrows.f
  repeat' first
      | (with_reducible exact ih0 _ _ _ _)
      | (with_reducible exact ih1 _ _ _ _)
      | (with_reducible exact massiflaw03_alive.mono _)
      | (with_reducible exact massiflaw03_trail.mono _ _)
      | (with_reducible exact place_Block.mono _ _)
      | (with_reducible exact place_Leaf.mono _ _)
      | (with_reducible exact place_Nodes.mono _ _)
      | (with_reducible exact place_Peaks.mono _ _)
      | (with_reducible exact LeO.refl _)
      | (with_reducible exact LeO.none _)
      | (with_reducible refine LeO.ite ?_ ?_)
      | (with_reducible refine LeO.bind ?_ (fun _ => ?_))
      | exact ih0 _ _ _ _
      | exact ih1 _ _ _ _
      | exact massiflaw03_alive.mono _
      | exact massiflaw03_trail.mono _ _
      | exact place_Block.mono _ _
      | exact place_Leaf.mono _ _
      | exact place_Nodes.mono _ _
      | exact place_Peaks.mono _ _
      | exact LeO.none _
      | refine LeO.ite ?_ ?_
      | refine LeO.bind ?_ (fun _ => ?_)
set_option maxHeartbeats 8000000 in
set_option maxRecDepth 100000 in
theorem massiflaw03_PlaceGrows.calls (k : Nat) (a0 : Int) (r : Bool) (w : World) (h : massiflaw03_PlaceGrows.f k a0 = some r) :
    Calls Try.prog 7 #[.int .u64 a0] w fun e w' => e = .returned (.bool r) ∧ Below w.heap.size w w' := by
  have hu24 := Try.underlying24
  have HB := Aside0.mk (Below.refl w.heap.size w)
  have H : ((massiflaw03_alive.f k).bind fun t166 => (if t166 = true then ((place_Nodes.f k a0).bind fun bt167 => (if a0 ≥ 1099511627776 then ((place_Leaf.f k a0).bind fun bt169 => (if (bt167.2 == (a0 == 1099511627776)) = true then (if bt169.2 = true then (some false) else (if bt167.2 = true then (some true) else (some (bt167.1 == 0)))) else (some false))) else ((place_Nodes.f k (IntKind.u64.wrap (a0 + 1))).bind fun bt171 => ((place_Leaf.f k a0).bind fun bt173 => (if bt167.2 = true then (if bt171.2 = true then (if bt173.2 = true then (if bt173.1 = bt167.1 then ((massiflaw03_trail.f k a0).bind fun t175 => (massiflaw03_PlaceGrows.j0 k a0 bt167.1 bt171.1 (bt171.1 != (IntKind.u64.wrap ((IntKind.u64.wrap (bt167.1 + 1)) + t175))))) else (massiflaw03_PlaceGrows.j0 k a0 bt167.1 bt171.1 true)) else (massiflaw03_PlaceGrows.j0 k a0 bt167.1 bt171.1 true)) else (massiflaw03_PlaceGrows.j0 k a0 bt167.1 bt171.1 true)) else (massiflaw03_PlaceGrows.j0 k a0 bt167.1 bt171.1 true)))))) else (some false))) = some r := h
  clear h
  replace H := Option.bind_eq_some_iff.mp H
  obtain ⟨t166, A20, H⟩ := H
  replace H : (if t166 = true then ((place_Nodes.f k a0).bind fun bt167 => (if a0 ≥ 1099511627776 then ((place_Leaf.f k a0).bind fun bt169 => (if (bt167.2 == (a0 == 1099511627776)) = true then (if bt169.2 = true then (some false) else (if bt167.2 = true then (some true) else (some (bt167.1 == 0)))) else (some false))) else ((place_Nodes.f k (IntKind.u64.wrap (a0 + 1))).bind fun bt171 => ((place_Leaf.f k a0).bind fun bt173 => (if bt167.2 = true then (if bt171.2 = true then (if bt173.2 = true then (if bt173.1 = bt167.1 then ((massiflaw03_trail.f k a0).bind fun t175 => (massiflaw03_PlaceGrows.j0 k a0 bt167.1 bt171.1 (bt171.1 != (IntKind.u64.wrap ((IntKind.u64.wrap (bt167.1 + 1)) + t175))))) else (massiflaw03_PlaceGrows.j0 k a0 bt167.1 bt171.1 true)) else (massiflaw03_PlaceGrows.j0 k a0 bt167.1 bt171.1 true)) else (massiflaw03_PlaceGrows.j0 k a0 bt167.1 bt171.1 true)) else (massiflaw03_PlaceGrows.j0 k a0 bt167.1 bt171.1 true)))))) else (some false)) = some r := H
  have A2 := Aside0.mk A20
  clear A20
  by_cases c3 : t166 = true
  · subst c3
    have H1 : ((place_Nodes.f k a0).bind fun bt167 => (if a0 ≥ 1099511627776 then ((place_Leaf.f k a0).bind fun bt169 => (if (bt167.2 == (a0 == 1099511627776)) = true then (if bt169.2 = true then (some false) else (if bt167.2 = true then (some true) else (some (bt167.1 == 0)))) else (some false))) else ((place_Nodes.f k (IntKind.u64.wrap (a0 + 1))).bind fun bt171 => ((place_Leaf.f k a0).bind fun bt173 => (if bt167.2 = true then (if bt171.2 = true then (if bt173.2 = true then (if bt173.1 = bt167.1 then ((massiflaw03_trail.f k a0).bind fun t175 => (massiflaw03_PlaceGrows.j0 k a0 bt167.1 bt171.1 (bt171.1 != (IntKind.u64.wrap ((IntKind.u64.wrap (bt167.1 + 1)) + t175))))) else (massiflaw03_PlaceGrows.j0 k a0 bt167.1 bt171.1 true)) else (massiflaw03_PlaceGrows.j0 k a0 bt167.1 bt171.1 true)) else (massiflaw03_PlaceGrows.j0 k a0 bt167.1 bt171.1 true)) else (massiflaw03_PlaceGrows.j0 k a0 bt167.1 bt171.1 true)))))) = some r := by rw [if_pos rfl] at H; exact H
    clear H
    have H := H1
    clear H1
    replace H := Option.bind_eq_some_iff.mp H
    obtain ⟨⟨t167, t168⟩, A40, H⟩ := H
    replace H : (if a0 ≥ 1099511627776 then ((place_Leaf.f k a0).bind fun bt169 => (if (t168 == (a0 == 1099511627776)) = true then (if bt169.2 = true then (some false) else (if t168 = true then (some true) else (some (t167 == 0)))) else (some false))) else ((place_Nodes.f k (IntKind.u64.wrap (a0 + 1))).bind fun bt171 => ((place_Leaf.f k a0).bind fun bt173 => (if t168 = true then (if bt171.2 = true then (if bt173.2 = true then (if bt173.1 = t167 then ((massiflaw03_trail.f k a0).bind fun t175 => (massiflaw03_PlaceGrows.j0 k a0 t167 bt171.1 (bt171.1 != (IntKind.u64.wrap ((IntKind.u64.wrap (t167 + 1)) + t175))))) else (massiflaw03_PlaceGrows.j0 k a0 t167 bt171.1 true)) else (massiflaw03_PlaceGrows.j0 k a0 t167 bt171.1 true)) else (massiflaw03_PlaceGrows.j0 k a0 t167 bt171.1 true)) else (massiflaw03_PlaceGrows.j0 k a0 t167 bt171.1 true))))) = some r := H
    have A4 := Aside0.mk A40
    clear A40
    by_cases c5 : a0 ≥ 1099511627776
    · rw [if_pos c5] at H
      have c5b0 : decide (1099511627776 ≤ a0) = true := decide_eq_true c5
      clear c5
      replace H := Option.bind_eq_some_iff.mp H
      obtain ⟨⟨t169, t170⟩, A60, H⟩ := H
      replace H : (if (t168 == (a0 == 1099511627776)) = true then (if t170 = true then (some false) else (if t168 = true then (some true) else (some (t167 == 0)))) else (some false)) = some r := H
      have A6 := Aside0.mk A60
      clear A60
      by_cases c7 : (t168 == (a0 == 1099511627776)) = true
      · rw [if_pos c7] at H
        have c7b0 : (t168 == (a0 == 1099511627776)) = true := c7
        (try (have c7b1 : decide (t168 = (a0 == 1099511627776)) = true := by simpa using c7))
        (try (have c7b2 : (t168 == (a0 == 1099511627776)) = true := by simpa using c7))
        clear c7
        by_cases c8 : t170 = true
        · subst c8
          have H1 : (some false) = some r := by rw [if_pos rfl] at H; exact H
          clear H
          have H := H1
          clear H1
          obtain rfl := Option.some.inj H
          go_enter Try.func7, Try.ntmps7
          go_wp2_with (first | ((with_reducible refine gate_callee (f := 11) rfl ?_); refine goesL_ (some 15) rfl rfl Try.func11 (by kernel_rfl) rfl #[] rfl (by (try simp only [List.map_toArray, List.map_cons, List.map_nil]); first | done | rfl | (simp only [List.length_drop, List.length_take]; rfl)) ?_; (with_reducible refine (massiflaw03_alive.calls k  true _ A2.out).mono ?_); rintro e w9 ⟨rfl, hb⟩; refine ⟨_, rfl, ?_⟩; have n0_ := Aside0.mk (below_step (by repeat (first | (with_reducible first | exact HB.out | apply below_alloc | apply pw_below_drewN | apply below_drew1) | exact HB.out)) hb); clear HB; have HB := n0_; clear n0_; (try clear hb); (try clear hb2); (try clear hk); (try clear hi)) | ((with_reducible refine gate_callee (f := 12) rfl ?_); refine goesL_ (some 19) rfl rfl Try.func12 (by kernel_rfl) rfl #[.int .u64 a0] rfl (by (try simp only [List.map_toArray, List.map_cons, List.map_nil]); first | done | rfl | (simp only [List.length_drop, List.length_take]; rfl)) ?_; (with_reducible refine (place_Nodes.calls k a0 t167 t168 _ A4.out).mono ?_); rintro e w' ⟨rfl, ⟨nd, rfl⟩⟩; refine ⟨_, rfl, ?_⟩) | ((with_reducible refine gate_callee (f := 14) rfl ?_); refine goesL_ (some 26) rfl rfl Try.func14 (by kernel_rfl) rfl #[.int .u64 a0] rfl (by (try simp only [List.map_toArray, List.map_cons, List.map_nil]); first | done | rfl | (simp only [List.length_drop, List.length_take]; rfl)) ?_; (with_reducible refine (place_Leaf.calls k a0 t169 true _ A6.out).mono ?_); rintro e w' ⟨rfl, ⟨nd, rfl⟩⟩; refine ⟨_, rfl, ?_⟩))
          go_ret
          exact ⟨by first | rfl | (simp [errW_none, errW_some] <;> rfl) | (simp [*, errW_none, errW_some] <;> rfl), by repeat (first | (with_reducible first | exact HB.out | apply below_alloc | apply pw_below_drewN | apply below_drew1) | exact HB.out)⟩
        · replace c8 := Bool.eq_false_iff.mpr c8
          subst c8
          have H1 : (if t168 = true then (some true) else (some (t167 == 0))) = some r := by rw [if_neg (show ¬ (false = true) by decide)] at H; exact H
          clear H
          have H := H1
          clear H1
          by_cases c10 : t168 = true
          · subst c10
            have H1 : (some true) = some r := by rw [if_pos rfl] at H; exact H
            clear H
            have H := H1
            clear H1
            obtain rfl := Option.some.inj H
            go_enter Try.func7, Try.ntmps7
            go_wp2_with (first | ((with_reducible refine gate_callee (f := 11) rfl ?_); refine goesL_ (some 15) rfl rfl Try.func11 (by kernel_rfl) rfl #[] rfl (by (try simp only [List.map_toArray, List.map_cons, List.map_nil]); first | done | rfl | (simp only [List.length_drop, List.length_take]; rfl)) ?_; (with_reducible refine (massiflaw03_alive.calls k  true _ A2.out).mono ?_); rintro e w11 ⟨rfl, hb⟩; refine ⟨_, rfl, ?_⟩; have n0_ := Aside0.mk (below_step (by repeat (first | (with_reducible first | exact HB.out | apply below_alloc | apply pw_below_drewN | apply below_drew1) | exact HB.out)) hb); clear HB; have HB := n0_; clear n0_; (try clear hb); (try clear hb2); (try clear hk); (try clear hi)) | ((with_reducible refine gate_callee (f := 12) rfl ?_); refine goesL_ (some 19) rfl rfl Try.func12 (by kernel_rfl) rfl #[.int .u64 a0] rfl (by (try simp only [List.map_toArray, List.map_cons, List.map_nil]); first | done | rfl | (simp only [List.length_drop, List.length_take]; rfl)) ?_; (with_reducible refine (place_Nodes.calls k a0 t167 true _ A4.out).mono ?_); rintro e w' ⟨rfl, ⟨nd, rfl⟩⟩; refine ⟨_, rfl, ?_⟩) | ((with_reducible refine gate_callee (f := 14) rfl ?_); refine goesL_ (some 26) rfl rfl Try.func14 (by kernel_rfl) rfl #[.int .u64 a0] rfl (by (try simp only [List.map_toArray, List.map_cons, List.map_nil]); first | done | rfl | (simp only [List.length_drop, List.length_take]; rfl)) ?_; (with_reducible refine (place_Leaf.calls k a0 t169 false _ A6.out).mono ?_); rintro e w' ⟨rfl, ⟨nd, rfl⟩⟩; refine ⟨_, rfl, ?_⟩))
            go_ret
            exact ⟨by first | rfl | (simp [errW_none, errW_some] <;> rfl) | (simp [*, errW_none, errW_some] <;> rfl), by repeat (first | (with_reducible first | exact HB.out | apply below_alloc | apply pw_below_drewN | apply below_drew1) | exact HB.out)⟩
          · replace c10 := Bool.eq_false_iff.mpr c10
            subst c10
            have H1 : (some (t167 == 0)) = some r := by rw [if_neg (show ¬ (false = true) by decide)] at H; exact H
            clear H
            have H := H1
            clear H1
            obtain rfl := Option.some.inj H
            go_enter Try.func7, Try.ntmps7
            go_wp2_with (first | ((with_reducible refine gate_callee (f := 11) rfl ?_); refine goesL_ (some 15) rfl rfl Try.func11 (by kernel_rfl) rfl #[] rfl (by (try simp only [List.map_toArray, List.map_cons, List.map_nil]); first | done | rfl | (simp only [List.length_drop, List.length_take]; rfl)) ?_; (with_reducible refine (massiflaw03_alive.calls k  true _ A2.out).mono ?_); rintro e w12 ⟨rfl, hb⟩; refine ⟨_, rfl, ?_⟩; have n0_ := Aside0.mk (below_step (by repeat (first | (with_reducible first | exact HB.out | apply below_alloc | apply pw_below_drewN | apply below_drew1) | exact HB.out)) hb); clear HB; have HB := n0_; clear n0_; (try clear hb); (try clear hb2); (try clear hk); (try clear hi)) | ((with_reducible refine gate_callee (f := 12) rfl ?_); refine goesL_ (some 19) rfl rfl Try.func12 (by kernel_rfl) rfl #[.int .u64 a0] rfl (by (try simp only [List.map_toArray, List.map_cons, List.map_nil]); first | done | rfl | (simp only [List.length_drop, List.length_take]; rfl)) ?_; (with_reducible refine (place_Nodes.calls k a0 t167 false _ A4.out).mono ?_); rintro e w' ⟨rfl, ⟨nd, rfl⟩⟩; refine ⟨_, rfl, ?_⟩) | ((with_reducible refine gate_callee (f := 14) rfl ?_); refine goesL_ (some 26) rfl rfl Try.func14 (by kernel_rfl) rfl #[.int .u64 a0] rfl (by (try simp only [List.map_toArray, List.map_cons, List.map_nil]); first | done | rfl | (simp only [List.length_drop, List.length_take]; rfl)) ?_; (with_reducible refine (place_Leaf.calls k a0 t169 false _ A6.out).mono ?_); rintro e w' ⟨rfl, ⟨nd, rfl⟩⟩; refine ⟨_, rfl, ?_⟩))
            go_ret
            exact ⟨by first | rfl | (simp [errW_none, errW_some] <;> rfl) | (simp [*, errW_none, errW_some] <;> rfl), by repeat (first | (with_reducible first | exact HB.out | apply below_alloc | apply pw_below_drewN | apply below_drew1) | exact HB.out)⟩
      · rw [if_neg c7] at H
        have c7b0 : (t168 == (a0 == 1099511627776)) = false := by simpa using c7
        (try (have c7b1 : decide (t168 = (a0 == 1099511627776)) = false := by simpa using c7))
        (try (have c7b2 : (t168 == (a0 == 1099511627776)) = false := by simpa using c7))
        (try (have c7b3 : ¬ (t168 = (a0 == 1099511627776)) := by simpa using c7))
        clear c7
        obtain rfl := Option.some.inj H
        go_enter Try.func7, Try.ntmps7
        go_wp2_with (first | ((with_reducible refine gate_callee (f := 11) rfl ?_); refine goesL_ (some 15) rfl rfl Try.func11 (by kernel_rfl) rfl #[] rfl (by (try simp only [List.map_toArray, List.map_cons, List.map_nil]); first | done | rfl | (simp only [List.length_drop, List.length_take]; rfl)) ?_; (with_reducible refine (massiflaw03_alive.calls k  true _ A2.out).mono ?_); rintro e w13 ⟨rfl, hb⟩; refine ⟨_, rfl, ?_⟩; have n0_ := Aside0.mk (below_step (by repeat (first | (with_reducible first | exact HB.out | apply below_alloc | apply pw_below_drewN | apply below_drew1) | exact HB.out)) hb); clear HB; have HB := n0_; clear n0_; (try clear hb); (try clear hb2); (try clear hk); (try clear hi)) | ((with_reducible refine gate_callee (f := 12) rfl ?_); refine goesL_ (some 19) rfl rfl Try.func12 (by kernel_rfl) rfl #[.int .u64 a0] rfl (by (try simp only [List.map_toArray, List.map_cons, List.map_nil]); first | done | rfl | (simp only [List.length_drop, List.length_take]; rfl)) ?_; (with_reducible refine (place_Nodes.calls k a0 t167 t168 _ A4.out).mono ?_); rintro e w' ⟨rfl, ⟨nd, rfl⟩⟩; refine ⟨_, rfl, ?_⟩) | ((with_reducible refine gate_callee (f := 14) rfl ?_); refine goesL_ (some 26) rfl rfl Try.func14 (by kernel_rfl) rfl #[.int .u64 a0] rfl (by (try simp only [List.map_toArray, List.map_cons, List.map_nil]); first | done | rfl | (simp only [List.length_drop, List.length_take]; rfl)) ?_; (with_reducible refine (place_Leaf.calls k a0 t169 t170 _ A6.out).mono ?_); rintro e w' ⟨rfl, ⟨nd, rfl⟩⟩; refine ⟨_, rfl, ?_⟩))
        go_ret
        exact ⟨by first | rfl | (simp [errW_none, errW_some] <;> rfl) | (simp [*, errW_none, errW_some] <;> rfl), by repeat (first | (with_reducible first | exact HB.out | apply below_alloc | apply pw_below_drewN | apply below_drew1) | exact HB.out)⟩
    · rw [if_neg c5] at H
      have c5b0 : decide (1099511627776 ≤ a0) = false := decide_eq_false c5
      clear c5
      replace H := Option.bind_eq_some_iff.mp H
      obtain ⟨⟨t171, t172⟩, A140, H⟩ := H
      replace H : ((place_Leaf.f k a0).bind fun bt173 => (if t168 = true then (if t172 = true then (if bt173.2 = true then (if bt173.1 = t167 then ((massiflaw03_trail.f k a0).bind fun t175 => (massiflaw03_PlaceGrows.j0 k a0 t167 t171 (t171 != (IntKind.u64.wrap ((IntKind.u64.wrap (t167 + 1)) + t175))))) else (massiflaw03_PlaceGrows.j0 k a0 t167 t171 true)) else (massiflaw03_PlaceGrows.j0 k a0 t167 t171 true)) else (massiflaw03_PlaceGrows.j0 k a0 t167 t171 true)) else (massiflaw03_PlaceGrows.j0 k a0 t167 t171 true))) = some r := H
      have A14 := Aside0.mk A140
      clear A140
      replace H := Option.bind_eq_some_iff.mp H
      obtain ⟨⟨t173, t174⟩, A150, H⟩ := H
      replace H : (if t168 = true then (if t172 = true then (if t174 = true then (if t173 = t167 then ((massiflaw03_trail.f k a0).bind fun t175 => (massiflaw03_PlaceGrows.j0 k a0 t167 t171 (t171 != (IntKind.u64.wrap ((IntKind.u64.wrap (t167 + 1)) + t175))))) else (massiflaw03_PlaceGrows.j0 k a0 t167 t171 true)) else (massiflaw03_PlaceGrows.j0 k a0 t167 t171 true)) else (massiflaw03_PlaceGrows.j0 k a0 t167 t171 true)) else (massiflaw03_PlaceGrows.j0 k a0 t167 t171 true)) = some r := H
      have A15 := Aside0.mk A150
      clear A150
      have HC16 := Aside0.mk H
      clear H
      go_enter Try.func7, Try.ntmps7
      go_upto_region 9 with (first | ((with_reducible refine gate_callee (f := 11) rfl ?_); refine goesL_ (some 15) rfl rfl Try.func11 (by kernel_rfl) rfl #[] rfl (by (try simp only [List.map_toArray, List.map_cons, List.map_nil]); first | done | rfl | (simp only [List.length_drop, List.length_take]; rfl)) ?_; (with_reducible refine (massiflaw03_alive.calls k  true _ A2.out).mono ?_); rintro e w17 ⟨rfl, hb⟩; refine ⟨_, rfl, ?_⟩; have n0_ := Aside0.mk (below_step (by repeat (first | (with_reducible first | exact HB.out | apply below_alloc | apply pw_below_drewN | apply below_drew1) | exact HB.out)) hb); clear HB; have HB := n0_; clear n0_; (try clear hb); (try clear hb2); (try clear hk); (try clear hi)) | ((with_reducible refine gate_callee (f := 12) rfl ?_); refine goesL_ (some 19) rfl rfl Try.func12 (by kernel_rfl) rfl #[.int .u64 a0] rfl (by (try simp only [List.map_toArray, List.map_cons, List.map_nil]); first | done | rfl | (simp only [List.length_drop, List.length_take]; rfl)) ?_; (with_reducible refine (place_Nodes.calls k a0 t167 t168 _ A4.out).mono ?_); rintro e w' ⟨rfl, ⟨nd, rfl⟩⟩; refine ⟨_, rfl, ?_⟩) | ((with_reducible refine gate_callee (f := 12) rfl ?_); refine goesL_ (some 47) rfl rfl Try.func12 (by kernel_rfl) rfl #[.int .u64 (IntKind.u64.wrap (a0 + 1))] rfl (by (try simp only [List.map_toArray, List.map_cons, List.map_nil]); first | done | rfl | (simp only [List.length_drop, List.length_take]; rfl)) ?_; (with_reducible refine (place_Nodes.calls k (IntKind.u64.wrap (a0 + 1)) t171 t172 _ A14.out).mono ?_); rintro e w' ⟨rfl, ⟨nd, rfl⟩⟩; refine ⟨_, rfl, ?_⟩) | ((with_reducible refine gate_callee (f := 14) rfl ?_); refine goesL_ (some 52) rfl rfl Try.func14 (by kernel_rfl) rfl #[.int .u64 a0] rfl (by (try simp only [List.map_toArray, List.map_cons, List.map_nil]); first | done | rfl | (simp only [List.length_drop, List.length_take]; rfl)) ?_; (with_reducible refine (place_Leaf.calls k a0 t173 t174 _ A15.out).mono ?_); rintro e w' ⟨rfl, ⟨nd, rfl⟩⟩; refine ⟨_, rfl, ?_⟩))
      (try simp only [Act.put, List.setIfInBounds_toArray, List.set_cons_zero, List.set_cons_succ])
      go_cut [78] (fun v78 wc => ∃ (kq : Nat) (x78_15 : Bool), v78 = .bool x78_15 ∧ Aside0 (massiflaw03_PlaceGrows.j0 kq a0 t167 t171 x78_15 = some r) ∧ Aside0 (kq ≤ k) ∧ Aside0 (Below w.heap.size w wc))
      case first =>
        have H := HC16.out
        clear HC16
        by_cases c18 : t168 = true
        · subst c18
          have H1 : (if t172 = true then (if t174 = true then (if t173 = t167 then ((massiflaw03_trail.f k a0).bind fun t175 => (massiflaw03_PlaceGrows.j0 k a0 t167 t171 (t171 != (IntKind.u64.wrap ((IntKind.u64.wrap (t167 + 1)) + t175))))) else (massiflaw03_PlaceGrows.j0 k a0 t167 t171 true)) else (massiflaw03_PlaceGrows.j0 k a0 t167 t171 true)) else (massiflaw03_PlaceGrows.j0 k a0 t167 t171 true)) = some r := by rw [if_pos rfl] at H; exact H
          clear H
          have H := H1
          clear H1
          by_cases c19 : t172 = true
          · subst c19
            have H1 : (if t174 = true then (if t173 = t167 then ((massiflaw03_trail.f k a0).bind fun t175 => (massiflaw03_PlaceGrows.j0 k a0 t167 t171 (t171 != (IntKind.u64.wrap ((IntKind.u64.wrap (t167 + 1)) + t175))))) else (massiflaw03_PlaceGrows.j0 k a0 t167 t171 true)) else (massiflaw03_PlaceGrows.j0 k a0 t167 t171 true)) = some r := by rw [if_pos rfl] at H; exact H
            clear H
            have H := H1
            clear H1
            by_cases c20 : t174 = true
            · subst c20
              have H1 : (if t173 = t167 then ((massiflaw03_trail.f k a0).bind fun t175 => (massiflaw03_PlaceGrows.j0 k a0 t167 t171 (t171 != (IntKind.u64.wrap ((IntKind.u64.wrap (t167 + 1)) + t175))))) else (massiflaw03_PlaceGrows.j0 k a0 t167 t171 true)) = some r := by rw [if_pos rfl] at H; exact H
              clear H
              have H := H1
              clear H1
              by_cases c21 : t173 = t167
              · rw [if_pos c21] at H
                have c21b0 : (t173 == t167) = true := beq_iff_eq.mpr c21
                have c21b1 : (t173 != t167) = false := bne_eq_false_iff_eq.mpr c21
                clear c21
                (first | rw [c21b0] | (simp only [i64_w, i32_w]; rw [c21b0]) | skip)
                replace H := Option.bind_eq_some_iff.mp H
                obtain ⟨t175, A220, H⟩ := H
                replace H : (massiflaw03_PlaceGrows.j0 k a0 t167 t171 (t171 != (IntKind.u64.wrap ((IntKind.u64.wrap (t167 + 1)) + t175)))) = some r := H
                have A22 := Aside0.mk A220
                clear A220
                have H' := Aside0.mk H
                clear H
                go_wp2_with (first | (go_at_call 31; (with_reducible refine (massiflaw03_trail.calls k a0 t175 _ A22.out).mono ?_); rintro e w' ⟨rfl, ⟨nd, rfl⟩⟩))
                go_meet
                case rel => exact ⟨_, ((t171 != (IntKind.u64.wrap ((IntKind.u64.wrap (t167 + 1)) + t175)))), (by first | rfl | (simp; done) | (simp [*]; done)), H', ⟨by first | omega | exact Nat.le_refl _⟩, ⟨by repeat (first | (with_reducible first | exact HB.out | apply below_alloc | apply pw_below_drewN | apply below_drew1) | exact HB.out)⟩⟩
              · rw [if_neg c21] at H
                have c21b0 : (t173 == t167) = false := beq_eq_false_iff_ne.mpr c21
                have c21b1 : (t173 != t167) = true := bne_iff_ne.mpr c21
                (first | rw [c21b0] | (simp only [i64_w, i32_w]; rw [c21b0]) | skip)
                have H' := Aside0.mk H
                clear H
                go_wp2
                go_meet
                case rel => exact ⟨_, (true), (by first | rfl | (simp; done) | (simp [*]; done)), H', ⟨by first | omega | exact Nat.le_refl _⟩, ⟨by repeat (first | (with_reducible first | exact HB.out | apply below_alloc | apply pw_below_drewN | apply below_drew1) | exact HB.out)⟩⟩
            · replace c20 := Bool.eq_false_iff.mpr c20
              subst c20
              have H1 : (massiflaw03_PlaceGrows.j0 k a0 t167 t171 true) = some r := by rw [if_neg (show ¬ (false = true) by decide)] at H; exact H
              clear H
              have H := H1
              clear H1
              have H' := Aside0.mk H
              clear H
              go_wp2
              go_meet
              case rel => exact ⟨_, (true), (by first | rfl | (simp; done) | (simp [*]; done)), H', ⟨by first | omega | exact Nat.le_refl _⟩, ⟨by repeat (first | (with_reducible first | exact HB.out | apply below_alloc | apply pw_below_drewN | apply below_drew1) | exact HB.out)⟩⟩
          · replace c19 := Bool.eq_false_iff.mpr c19
            subst c19
            have H1 : (massiflaw03_PlaceGrows.j0 k a0 t167 t171 true) = some r := by rw [if_neg (show ¬ (false = true) by decide)] at H; exact H
            clear H
            have H := H1
            clear H1
            have H' := Aside0.mk H
            clear H
            go_wp2
            go_meet
            case rel => exact ⟨_, (true), (by first | rfl | (simp; done) | (simp [*]; done)), H', ⟨by first | omega | exact Nat.le_refl _⟩, ⟨by repeat (first | (with_reducible first | exact HB.out | apply below_alloc | apply pw_below_drewN | apply below_drew1) | exact HB.out)⟩⟩
        · replace c18 := Bool.eq_false_iff.mpr c18
          subst c18
          have H1 : (massiflaw03_PlaceGrows.j0 k a0 t167 t171 true) = some r := by rw [if_neg (show ¬ (false = true) by decide)] at H; exact H
          clear H
          have H := H1
          clear H1
          have H' := Aside0.mk H
          clear H
          go_wp2
          go_meet
          case rel => exact ⟨_, (true), (by first | rfl | (simp; done) | (simp [*]; done)), H', ⟨by first | omega | exact Nat.le_refl _⟩, ⟨by repeat (first | (with_reducible first | exact HB.out | apply below_alloc | apply pw_below_drewN | apply below_drew1) | exact HB.out)⟩⟩
      case rest =>
        clear HC16
        try clear c1
        try clear c2
        try clear p2
        try clear c3
        try clear c5
        try clear c5b0
        try clear c7
        try clear c7b0
        try clear c7b1
        try clear c7b2
        try clear c8
        try clear c10
        try clear c11
        try clear c12
        try clear c14
        try clear c18
        try clear c19
        try clear c20
        try clear c21
        try clear c21b0
        try clear c21b1
        obtain ⟨kq, x78_15, rfl, HA, HJ15, HB⟩ := hcut
        cases kq with
        | zero => exact absurd HA.out (by simp [massiflaw03_PlaceGrows.j0])
        | succ kj15 =>
          have H := HA.out
          clear HA
          simp only [massiflaw03_PlaceGrows.j0] at H
          by_cases c23 : x78_15 = true
          · subst c23
            have H1 : (some false) = some r := by rw [if_pos rfl] at H; exact H
            clear H
            have H := H1
            clear H1
            obtain rfl := Option.some.inj H
            go_wp2
            go_ret
            exact ⟨by first | rfl | (simp [errW_none, errW_some] <;> rfl) | (simp [*, errW_none, errW_some] <;> rfl), by repeat (first | (with_reducible first | exact HB.out | apply below_alloc | apply pw_below_drewN | apply below_drew1) | exact HB.out)⟩
          · replace c23 := Bool.eq_false_iff.mpr c23
            subst c23
            have H1 : (massiflaw03_PlaceGrows.l0 kj15 a0 t167 t171 0) = some r := by rw [if_neg (show ¬ (false = true) by decide)] at H; exact H
            clear H
            have H := H1
            clear H1
            have H' := Aside0.mk H
            clear H
            go_wp2
            go_loopg [11] kj15 (fun kq v11 w' => ∃ (x11_2 : Int), v11 = .int .u64 x11_2 ∧ Aside0 (massiflaw03_PlaceGrows.l0 kq a0 t167 t171 x11_2 = some r) ∧ Aside0 (kq ≤ kj15) ∧ Aside0 (Below w.heap.size w w'))
            case atStart => exact ⟨(0), (by first | rfl | (simp; done) | (simp [*]; done)), H', ⟨Nat.le_refl _⟩, ⟨by repeat (first | (with_reducible first | exact HB.out | apply below_alloc | apply pw_below_drewN | apply below_drew1) | exact HB.out)⟩⟩
            case round =>
              clear H'
              try clear c1
              try clear c2
              try clear p2
              try clear c3
              try clear c5
              try clear c5b0
              try clear c7
              try clear c7b0
              try clear c7b1
              try clear c7b2
              try clear c8
              try clear c10
              try clear c11
              try clear c12
              try clear c14
              try clear c18
              try clear c19
              try clear c20
              try clear c21
              try clear c21b0
              try clear c21b1
              try clear c23
              try clear p2
              obtain ⟨x11_2, rfl, HA, HK2, HB⟩ := hrel
              cases gk with
              | zero => exact absurd HA.out (by simp [massiflaw03_PlaceGrows.l0])
              | succ k2 =>
                have H := HA.out
                clear HA
                simp only [massiflaw03_PlaceGrows.l0] at H
                replace H := Option.bind_eq_some_iff.mp H
                obtain ⟨t176, A240, H⟩ := H
                replace H : (if x11_2 ≤ t176 then ((place_Block.f k2 (IntKind.u64.wrap (t167 + x11_2))).bind fun bt177 => (if bt177.2.2 = true then (if 0 ≤ x11_2 then (if (!(bt177.1 == (wrap64 (x11_2))) || (!(bt177.2.1 == (shr .u64 a0 x11_2)))) = true then (some false) else (massiflaw03_PlaceGrows.l0 k2 a0 t167 t171 (IntKind.u64.wrap (x11_2 + 1)))) else (none)) else (some false))) else ((place_Peaks.f k2 (IntKind.u64.wrap (a0 + 1))).bind fun t181 => (if (t181.length : Int) > 0 then (if 0 ≤ (wrap64 ((t181.length : Int) - 1)) then (if (wrap64 ((t181.length : Int) - 1)) < (t181.length : Int) then (some ((rd t181 (wrap64 ((t181.length : Int) - 1))) == (IntKind.u64.wrap (t171 - 1)))) else (none)) else (none)) else (some false)))) = some r := H
                have A24 := Aside0.mk A240
                clear A240
                by_cases c25 : x11_2 ≤ t176
                · rw [if_pos c25] at H
                  have c25b0 : decide (x11_2 ≤ t176) = true := decide_eq_true c25
                  clear c25
                  replace H := Option.bind_eq_some_iff.mp H
                  obtain ⟨⟨t177, t178, t179⟩, A260, H⟩ := H
                  replace H : (if t179 = true then (if 0 ≤ x11_2 then (if (!(t177 == (wrap64 (x11_2))) || (!(t178 == (shr .u64 a0 x11_2)))) = true then (some false) else (massiflaw03_PlaceGrows.l0 k2 a0 t167 t171 (IntKind.u64.wrap (x11_2 + 1)))) else (none)) else (some false)) = some r := H
                  have A26 := Aside0.mk A260
                  clear A260
                  by_cases c27 : t179 = true
                  · subst c27
                    have H1 : (if 0 ≤ x11_2 then (if (!(t177 == (wrap64 (x11_2))) || (!(t178 == (shr .u64 a0 x11_2)))) = true then (some false) else (massiflaw03_PlaceGrows.l0 k2 a0 t167 t171 (IntKind.u64.wrap (x11_2 + 1)))) else (none)) = some r := by rw [if_pos rfl] at H; exact H
                    clear H
                    have H := H1
                    clear H1
                    by_cases c28 : 0 ≤ x11_2
                    · rw [if_pos c28] at H
                      have c28b0 := eq_true c28
                      have c28b1 : decide (0 ≤ x11_2) = true := decide_eq_true c28
                      clear c28
                      obtain ⟨ji29, hji29⟩ : ∃ j_ : Int, (shr .u64 a0 x11_2) = j_ := ⟨_, rfl⟩
                      replace H : (if (!(t177 == (wrap64 (x11_2))) || (!(t178 == (ji29)))) = true then (some false) else (massiflaw03_PlaceGrows.l0 k2 a0 t167 t171 (IntKind.u64.wrap (x11_2 + 1)))) = some r := by first | (rw [hji29] at H; exact H) | (simp only [hji29] at H ⊢; exact H)
                      (try rw [hji29] at A24)
                      (try rw [hji29] at A26)
                      have hji29_ : (a0 / 2 ^ min x11_2.toNat 64) = ji29 := hji29
                      have hji29z : x11_2 ≤ 64 → (a0 / 2 ^ x11_2.toNat) = ji29 := shr_small hji29
                      by_cases c30 : (!(t177 == (wrap64 (x11_2))) || (!(t178 == (ji29)))) = true
                      · rw [if_pos c30] at H
                        have c30b0 : (!(t177 == (wrap64 (x11_2))) || (!(t178 == (ji29)))) = true := c30
                        clear c30
                        obtain rfl := Option.some.inj H
                        go_wp2_with (first | ((with_reducible refine gate_callee (f := 31) rfl ?_); refine goesL_ (some 81) rfl rfl Try.func31 (by kernel_rfl) rfl #[.int .u64 a0] rfl (by (try simp only [List.map_toArray, List.map_cons, List.map_nil]); first | done | rfl | (simp only [List.length_drop, List.length_take]; rfl)) ?_; (with_reducible refine (massiflaw03_trail.calls k2 a0 t176 _ A24.out).mono ?_); rintro e w' ⟨rfl, ⟨nd, rfl⟩⟩; refine ⟨_, rfl, ?_⟩; (try (rw [drewN_self wr]; generalize hq_ : World.drewN wr _ = wr; have n0_ : Aside0 (Below w.heap.size w wr) := ⟨by rw [← hq_]; exact (by repeat (first | (with_reducible first | exact HB.out | apply below_alloc | apply pw_below_drewN | apply below_drew1) | exact HB.out))⟩; clear HB hq_; have HB := n0_; clear n0_))) | ((with_reducible refine gate_callee (f := 21) rfl ?_); refine goesL_ (some 89) rfl rfl Try.func21 (by kernel_rfl) rfl #[.int .u64 (IntKind.u64.wrap (t167 + x11_2))] rfl (by (try simp only [List.map_toArray, List.map_cons, List.map_nil]); first | done | rfl | (simp only [List.length_drop, List.length_take]; rfl)) ?_; (with_reducible refine (place_Block.calls k2 (IntKind.u64.wrap (t167 + x11_2)) t177 t178 true _ A26.out).mono ?_); rintro e w31 ⟨rfl, hb⟩; refine ⟨_, rfl, ?_⟩; have n0_ := Aside0.mk (below_step (by repeat (first | (with_reducible first | exact HB.out | apply below_alloc | apply pw_below_drewN | apply below_drew1) | exact HB.out)) hb); clear HB; have HB := n0_; clear n0_; (try clear hb); (try clear hb2); (try clear hk); (try clear hi)) | ((with_reducible refine gate_dst (N := 12) rfl ?_); (try (refine gate_guard (by rfl) ?_; dsimp only)); refine box_event ?hg (N := 12) ?hd (cs := #[.int .i64 0, .int .u64 0]) (t := 24) ?hr ?_; (case hd => rfl); (case hg => rfl); (case hr => first | (go_simp; done) | (go_simp; rfl)); intro gb180 hg w32 hbox hb; have n0_ := Aside0.mk (below_step (by repeat (first | (with_reducible first | exact HB.out | apply below_alloc | apply pw_below_drewN | apply below_drew1) | exact HB.out)) hb); have n1_ := Aside0.mk (hbox); have n2_ := Aside0.mk ((by rw [hg]; exact (below_size (by repeat (first | (with_reducible first | exact HB.out | apply below_alloc | apply pw_below_drewN | apply below_drew1) | exact HB.out))) : w.heap.size ≤ gb180)); have n3_ := Aside0.mk ((by rw [hg]; exact (below_size (by repeat (first | (with_reducible first | exact HB.out | apply below_alloc | apply pw_below_drewN | apply below_drew1) | exact HB.out))) : w.heap.size ≤ gb180)); clear HB; have HB := n0_; have BK180 := n1_; have GW180 := n2_; have GE180 := n3_; clear n0_ n1_ n2_ n3_; clear hb hbox hg; have hcz33_0 : w32.cell? ⟨gb180, 0, none⟩ = some (.int .i64 0) := (blk_cell BK180.out 0).trans rfl; have hcz33_1 : w32.cell? ⟨gb180, 1, none⟩ = some (.int .u64 0) := (blk_cell BK180.out 1).trans rfl; have hfz33_0 := blk_frozen BK180.out 0; have hfz33_1 := blk_frozen BK180.out 1))
                        go_ret
                        exact ⟨by first | rfl | (simp [errW_none, errW_some] <;> rfl) | (simp only [← hji29]; first | rfl | (simp [errW_none, errW_some] <;> rfl)) | (simp [*, errW_none, errW_some] <;> rfl), by repeat (first | (with_reducible first | exact HB.out | apply below_alloc | apply pw_below_drewN | apply below_drew1 | refine below_set ?_ GE180.out) | exact HB.out)⟩
                      · rw [if_neg c30] at H
                        have c30b0 : (!(t177 == (wrap64 (x11_2))) || (!(t178 == (ji29)))) = false := by simpa using c30
                        clear c30
                        have H' := Aside0.mk H
                        clear H
                        go_wp2_with (first | ((with_reducible refine gate_callee (f := 31) rfl ?_); refine goesL_ (some 81) rfl rfl Try.func31 (by kernel_rfl) rfl #[.int .u64 a0] rfl (by (try simp only [List.map_toArray, List.map_cons, List.map_nil]); first | done | rfl | (simp only [List.length_drop, List.length_take]; rfl)) ?_; (with_reducible refine (massiflaw03_trail.calls k2 a0 t176 _ A24.out).mono ?_); rintro e w' ⟨rfl, ⟨nd, rfl⟩⟩; refine ⟨_, rfl, ?_⟩; (try (rw [drewN_self wr]; generalize hq_ : World.drewN wr _ = wr; have n0_ : Aside0 (Below w.heap.size w wr) := ⟨by rw [← hq_]; exact (by repeat (first | (with_reducible first | exact HB.out | apply below_alloc | apply pw_below_drewN | apply below_drew1) | exact HB.out))⟩; clear HB hq_; have HB := n0_; clear n0_))) | ((with_reducible refine gate_callee (f := 21) rfl ?_); refine goesL_ (some 89) rfl rfl Try.func21 (by kernel_rfl) rfl #[.int .u64 (IntKind.u64.wrap (t167 + x11_2))] rfl (by (try simp only [List.map_toArray, List.map_cons, List.map_nil]); first | done | rfl | (simp only [List.length_drop, List.length_take]; rfl)) ?_; (with_reducible refine (place_Block.calls k2 (IntKind.u64.wrap (t167 + x11_2)) t177 t178 true _ A26.out).mono ?_); rintro e w34 ⟨rfl, hb⟩; refine ⟨_, rfl, ?_⟩; have n0_ := Aside0.mk (below_step (by repeat (first | (with_reducible first | exact HB.out | apply below_alloc | apply pw_below_drewN | apply below_drew1) | exact HB.out)) hb); clear HB; have HB := n0_; clear n0_; (try clear hb); (try clear hb2); (try clear hk); (try clear hi)) | ((with_reducible refine gate_dst (N := 12) rfl ?_); (try (refine gate_guard (by rfl) ?_; dsimp only)); refine box_event ?hg (N := 12) ?hd (cs := #[.int .i64 0, .int .u64 0]) (t := 24) ?hr ?_; (case hd => rfl); (case hg => rfl); (case hr => first | (go_simp; done) | (go_simp; rfl)); intro gb180 hg w35 hbox hb; have n0_ := Aside0.mk (below_step (by repeat (first | (with_reducible first | exact HB.out | apply below_alloc | apply pw_below_drewN | apply below_drew1) | exact HB.out)) hb); have n1_ := Aside0.mk (hbox); have n2_ := Aside0.mk ((by rw [hg]; exact (below_size (by repeat (first | (with_reducible first | exact HB.out | apply below_alloc | apply pw_below_drewN | apply below_drew1) | exact HB.out))) : w.heap.size ≤ gb180)); have n3_ := Aside0.mk ((by rw [hg]; exact (below_size (by repeat (first | (with_reducible first | exact HB.out | apply below_alloc | apply pw_below_drewN | apply below_drew1) | exact HB.out))) : w.heap.size ≤ gb180)); clear HB; have HB := n0_; have BK180 := n1_; have GW180 := n2_; have GE180 := n3_; clear n0_ n1_ n2_ n3_; clear hb hbox hg; have hcz36_0 : w35.cell? ⟨gb180, 0, none⟩ = some (.int .i64 0) := (blk_cell BK180.out 0).trans rfl; have hcz36_1 : w35.cell? ⟨gb180, 1, none⟩ = some (.int .u64 0) := (blk_cell BK180.out 1).trans rfl; have hfz36_0 := blk_frozen BK180.out 0; have hfz36_1 := blk_frozen BK180.out 1))
                        go_roundg k2
                        case measure => have := HJ15.out; have := HK2.out; omega
                        case rel => exact ⟨(IntKind.u64.wrap (x11_2 + 1)), (by first | rfl | (simp; done) | (simp [*]; done)), H', ⟨by have := HJ15.out; have := HK2.out; omega⟩, ⟨by repeat (first | (with_reducible first | exact HB.out | apply below_alloc | apply pw_below_drewN | apply below_drew1 | refine below_set ?_ GE180.out) | exact HB.out)⟩⟩
                    · rw [if_neg c28] at H
                      exact absurd H (by simp)
                  · replace c27 := Bool.eq_false_iff.mpr c27
                    subst c27
                    have H1 : (some false) = some r := by rw [if_neg (show ¬ (false = true) by decide)] at H; exact H
                    clear H
                    have H := H1
                    clear H1
                    obtain rfl := Option.some.inj H
                    go_wp2_with (first | ((with_reducible refine gate_callee (f := 31) rfl ?_); refine goesL_ (some 81) rfl rfl Try.func31 (by kernel_rfl) rfl #[.int .u64 a0] rfl (by (try simp only [List.map_toArray, List.map_cons, List.map_nil]); first | done | rfl | (simp only [List.length_drop, List.length_take]; rfl)) ?_; (with_reducible refine (massiflaw03_trail.calls k2 a0 t176 _ A24.out).mono ?_); rintro e w' ⟨rfl, ⟨nd, rfl⟩⟩; refine ⟨_, rfl, ?_⟩; (try (rw [drewN_self wr]; generalize hq_ : World.drewN wr _ = wr; have n0_ : Aside0 (Below w.heap.size w wr) := ⟨by rw [← hq_]; exact (by repeat (first | (with_reducible first | exact HB.out | apply below_alloc | apply pw_below_drewN | apply below_drew1) | exact HB.out))⟩; clear HB hq_; have HB := n0_; clear n0_))) | ((with_reducible refine gate_callee (f := 21) rfl ?_); refine goesL_ (some 89) rfl rfl Try.func21 (by kernel_rfl) rfl #[.int .u64 (IntKind.u64.wrap (t167 + x11_2))] rfl (by (try simp only [List.map_toArray, List.map_cons, List.map_nil]); first | done | rfl | (simp only [List.length_drop, List.length_take]; rfl)) ?_; (with_reducible refine (place_Block.calls k2 (IntKind.u64.wrap (t167 + x11_2)) t177 t178 false _ A26.out).mono ?_); rintro e w37 ⟨rfl, hb⟩; refine ⟨_, rfl, ?_⟩; have n0_ := Aside0.mk (below_step (by repeat (first | (with_reducible first | exact HB.out | apply below_alloc | apply pw_below_drewN | apply below_drew1) | exact HB.out)) hb); clear HB; have HB := n0_; clear n0_; (try clear hb); (try clear hb2); (try clear hk); (try clear hi)) | ((with_reducible refine gate_dst (N := 12) rfl ?_); (try (refine gate_guard (by rfl) ?_; dsimp only)); refine box_event ?hg (N := 12) ?hd (cs := #[.int .i64 0, .int .u64 0]) (t := 24) ?hr ?_; (case hd => rfl); (case hg => rfl); (case hr => first | (go_simp; done) | (go_simp; rfl)); intro gb180 hg w38 hbox hb; have n0_ := Aside0.mk (below_step (by repeat (first | (with_reducible first | exact HB.out | apply below_alloc | apply pw_below_drewN | apply below_drew1) | exact HB.out)) hb); have n1_ := Aside0.mk (hbox); have n2_ := Aside0.mk ((by rw [hg]; exact (below_size (by repeat (first | (with_reducible first | exact HB.out | apply below_alloc | apply pw_below_drewN | apply below_drew1) | exact HB.out))) : w.heap.size ≤ gb180)); have n3_ := Aside0.mk ((by rw [hg]; exact (below_size (by repeat (first | (with_reducible first | exact HB.out | apply below_alloc | apply pw_below_drewN | apply below_drew1) | exact HB.out))) : w.heap.size ≤ gb180)); clear HB; have HB := n0_; have BK180 := n1_; have GW180 := n2_; have GE180 := n3_; clear n0_ n1_ n2_ n3_; clear hb hbox hg; have hcz39_0 : w38.cell? ⟨gb180, 0, none⟩ = some (.int .i64 0) := (blk_cell BK180.out 0).trans rfl; have hcz39_1 : w38.cell? ⟨gb180, 1, none⟩ = some (.int .u64 0) := (blk_cell BK180.out 1).trans rfl; have hfz39_0 := blk_frozen BK180.out 0; have hfz39_1 := blk_frozen BK180.out 1))
                    go_ret
                    exact ⟨by first | rfl | (simp [errW_none, errW_some] <;> rfl) | (simp [*, errW_none, errW_some] <;> rfl), by repeat (first | (with_reducible first | exact HB.out | apply below_alloc | apply pw_below_drewN | apply below_drew1 | refine below_set ?_ GE180.out) | exact HB.out)⟩
                · rw [if_neg c25] at H
                  have c25b0 : decide (x11_2 ≤ t176) = false := decide_eq_false c25
                  clear c25
                  replace H := Option.bind_eq_some_iff.mp H
                  obtain ⟨t181, A400, H⟩ := H
                  replace H : (if (t181.length : Int) > 0 then (if 0 ≤ (wrap64 ((t181.length : Int) - 1)) then (if (wrap64 ((t181.length : Int) - 1)) < (t181.length : Int) then (some ((rd t181 (wrap64 ((t181.length : Int) - 1))) == (IntKind.u64.wrap (t171 - 1)))) else (none)) else (none)) else (some false)) = some r := H
                  have A40 := Aside0.mk A400
                  clear A400
                  by_cases c41 : (t181.length : Int) > 0
                  · rw [if_pos c41] at H
                    have c41b0 : decide (0 < (t181.length : Int)) = true := decide_eq_true c41
                    have c41b1 : decide (0 < t181.length) = true := decide_eq_true (by omega)
                    clear c41
                    obtain ⟨ji42, hji42⟩ : ∃ j_ : Int, (wrap64 ((t181.length : Int) - 1)) = j_ := ⟨_, rfl⟩
                    replace H : (if 0 ≤ (ji42) then (if (ji42) < (t181.length : Int) then (some ((rd t181 (ji42)) == (IntKind.u64.wrap (t171 - 1)))) else (none)) else (none)) = some r := by first | (rw [hji42] at H; exact H) | (simp only [hji42] at H ⊢; exact H)
                    (try rw [hji42] at A24)
                    (try rw [hji42] at A40)
                    have hji42w : (IntKind.i64.wrap ((t181.length : Int) - 1)) = ji42 := (i64_w _).trans hji42
                    by_cases c43 : 0 ≤ (ji42)
                    · rw [if_pos c43] at H
                      have c43b0 : decide (0 ≤ (ji42)) = true := decide_eq_true c43
                      clear c43
                      by_cases c44 : (ji42) < (t181.length : Int)
                      · rw [if_pos c44] at H
                        have c44b0 : decide ((ji42) < (t181.length : Int)) = true := decide_eq_true c44
                        clear c44
                        obtain rfl := Option.some.inj H
                        go_wp2_with (first | ((with_reducible refine gate_callee (f := 31) rfl ?_); refine goesL_ (some 81) rfl rfl Try.func31 (by kernel_rfl) rfl #[.int .u64 a0] rfl (by (try simp only [List.map_toArray, List.map_cons, List.map_nil]); first | done | rfl | (simp only [List.length_drop, List.length_take]; rfl)) ?_; (with_reducible refine (massiflaw03_trail.calls k2 a0 t176 _ A24.out).mono ?_); rintro e w' ⟨rfl, ⟨nd, rfl⟩⟩; refine ⟨_, rfl, ?_⟩) | ((with_reducible refine gate_callee (f := 19) rfl ?_); refine goesL_ (some 106) rfl rfl Try.func19 (by kernel_rfl) rfl #[.int .u64 (IntKind.u64.wrap (a0 + 1))] rfl (by (try simp only [List.map_toArray, List.map_cons, List.map_nil]); first | done | rfl | (simp only [List.length_drop, List.length_take]; rfl)) ?_; (with_reducible refine (place_Peaks.calls k2 (IntKind.u64.wrap (a0 + 1)) t181 _ A40.out).mono ?_); rintro e w45 ⟨v182, rfl, ho0, hb⟩; refine ⟨_, rfl, ?_⟩; have n0_ := Aside0.mk (Kd.R_lower ho0 (below_size (by repeat (first | (with_reducible first | exact HB.out | apply below_alloc | apply pw_below_drewN | apply below_drew1) | exact HB.out)))); have n1_ := Aside0.mk (below_step (by repeat (first | (with_reducible first | exact HB.out | apply below_alloc | apply pw_below_drewN | apply below_drew1) | exact HB.out)) hb); clear HB; have HO183 := n0_; have HB := n1_; clear n0_ n1_; (try clear hb); (try clear hb2); (try clear hk); (try clear hi); (try clear ho0); obtain ⟨Ao46, co46, eo46⟩ := Kd.R_slice HO183.out; subst eo46; have p184 : 0 ≤ ((ji42) : Int) := of_decide_eq_true (by first | (with_reducible assumption) | assumption); have q184 : (ji42) < (t181.length : Int) := of_decide_eq_true (by first | (with_reducible assumption) | assumption); obtain ⟨ad184, e184, hx184_0⟩ := Kd.at_int (Kd.R_reads' HO183.out).2.2 (ji42) p184 q184; cases e184; replace p184 := eq_true p184; replace q184 := eq_true q184))
                        go_ret
                        exact ⟨by first | rfl | (simp [errW_none, errW_some] <;> rfl) | (simp only [← hji42]; first | rfl | (simp [errW_none, errW_some] <;> rfl)) | (simp [*, errW_none, errW_some] <;> rfl), by repeat (first | (with_reducible first | exact HB.out | apply below_alloc | apply pw_below_drewN | apply below_drew1) | exact HB.out)⟩
                      · rw [if_neg c44] at H
                        exact absurd H (by simp)
                    · rw [if_neg c43] at H
                      exact absurd H (by simp)
                  · rw [if_neg c41] at H
                    have c41b0 : decide (0 < (t181.length : Int)) = false := decide_eq_false c41
                    have c41b1 : decide (0 < t181.length) = false := decide_eq_false (by omega)
                    clear c41
                    obtain rfl := Option.some.inj H
                    go_wp2_with (first | ((with_reducible refine gate_callee (f := 31) rfl ?_); refine goesL_ (some 81) rfl rfl Try.func31 (by kernel_rfl) rfl #[.int .u64 a0] rfl (by (try simp only [List.map_toArray, List.map_cons, List.map_nil]); first | done | rfl | (simp only [List.length_drop, List.length_take]; rfl)) ?_; (with_reducible refine (massiflaw03_trail.calls k2 a0 t176 _ A24.out).mono ?_); rintro e w' ⟨rfl, ⟨nd, rfl⟩⟩; refine ⟨_, rfl, ?_⟩) | ((with_reducible refine gate_callee (f := 19) rfl ?_); refine goesL_ (some 106) rfl rfl Try.func19 (by kernel_rfl) rfl #[.int .u64 (IntKind.u64.wrap (a0 + 1))] rfl (by (try simp only [List.map_toArray, List.map_cons, List.map_nil]); first | done | rfl | (simp only [List.length_drop, List.length_take]; rfl)) ?_; (with_reducible refine (place_Peaks.calls k2 (IntKind.u64.wrap (a0 + 1)) t181 _ A40.out).mono ?_); rintro e w47 ⟨v182, rfl, ho0, hb⟩; refine ⟨_, rfl, ?_⟩; have n0_ := Aside0.mk (Kd.R_lower ho0 (below_size (by repeat (first | (with_reducible first | exact HB.out | apply below_alloc | apply pw_below_drewN | apply below_drew1) | exact HB.out)))); have n1_ := Aside0.mk (below_step (by repeat (first | (with_reducible first | exact HB.out | apply below_alloc | apply pw_below_drewN | apply below_drew1) | exact HB.out)) hb); clear HB; have HO183 := n0_; have HB := n1_; clear n0_ n1_; (try clear hb); (try clear hb2); (try clear hk); (try clear hi); (try clear ho0); obtain ⟨Ao48, co48, eo48⟩ := Kd.R_slice HO183.out; subst eo48))
                    go_ret
                    exact ⟨by first | rfl | (simp [errW_none, errW_some] <;> rfl) | (simp [*, errW_none, errW_some] <;> rfl), by repeat (first | (with_reducible first | exact HB.out | apply below_alloc | apply pw_below_drewN | apply below_drew1) | exact HB.out)⟩
  · replace c3 := Bool.eq_false_iff.mpr c3
    subst c3
    have H1 : (some false) = some r := by rw [if_neg (show ¬ (false = true) by decide)] at H; exact H
    clear H
    have H := H1
    clear H1
    obtain rfl := Option.some.inj H
    go_enter Try.func7, Try.ntmps7
    go_wp2_with (first | ((with_reducible refine gate_callee (f := 11) rfl ?_); refine goesL_ (some 15) rfl rfl Try.func11 (by kernel_rfl) rfl #[] rfl (by (try simp only [List.map_toArray, List.map_cons, List.map_nil]); first | done | rfl | (simp only [List.length_drop, List.length_take]; rfl)) ?_; (with_reducible refine (massiflaw03_alive.calls k  false _ A2.out).mono ?_); rintro e w49 ⟨rfl, hb⟩; refine ⟨_, rfl, ?_⟩; have n0_ := Aside0.mk (below_step (by repeat (first | (with_reducible first | exact HB.out | apply below_alloc | apply pw_below_drewN | apply below_drew1) | exact HB.out)) hb); clear HB; have HB := n0_; clear n0_; (try clear hb); (try clear hb2); (try clear hk); (try clear hi)))
    go_ret
    exact ⟨by first | rfl | (simp [errW_none, errW_some] <;> rfl) | (simp [*, errW_none, errW_some] <;> rfl), by repeat (first | (with_reducible first | exact HB.out | apply below_alloc | apply pw_below_drewN | apply below_drew1) | exact HB.out)⟩

/-- THE ONE PURE STATEMENT of massiflaw03_PlaceGrows: yours. -/
def massiflaw03_PlaceGrows.Pure : Prop := ∀ (a0 : Int), (Lit.int .u64 a0).wf = true → ∃ k, massiflaw03_PlaceGrows.f k a0 = some true
theorem massiflaw03_PlaceGrows.walk (P : massiflaw03_PlaceGrows.Pure) (a0 : Int) (w : World) (w0 : (Lit.int .u64 a0).wf = true) :
    Calls Try.prog 7 #[.int .u64 a0] w fun e w' => e = .returned (.bool true) ∧ Below w.heap.size w w' := by
  obtain ⟨k, h⟩ := P a0 w0
  refine (massiflaw03_PlaceGrows.calls k a0 true w h).mono ?_
  rintro e w' ⟨rfl, hd⟩
  exact ⟨rfl, hd⟩

end Go.Proofs.Ytlbehenaoiddkaa.PPlaceGrows
