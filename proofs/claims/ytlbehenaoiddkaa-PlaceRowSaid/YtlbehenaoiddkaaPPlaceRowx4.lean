-- PRINTED BY print.sh 35421559b90ae4d0a3588c463048766b98c2df88dd9212a6774a882060cdf62d: not written by this session
import Derived.Test.YtlbehenaoiddkaaPPlaceRowx0
import Derived.Test.YtlbehenaoiddkaaPPlaceRowx1
import Derived.Test.YtlbehenaoiddkaaPPlaceRowx2
import Derived.Test.YtlbehenaoiddkaaPPlaceRowx3
namespace Go.Proofs.Ytlbehenaoiddkaa.PPlaceRow
open Go.RowKit Go.Proofs.YtlbehenaoiddkaaW.PrintWords Go.Proofs.YtlbehenaoiddkaaW.PrintLast Go.Proofs.YtlbehenaoiddkaaW.PrintMore
attribute [local go_sem] max2_int min2_int max_two min_two max_three min_three max_four min_four   -- for this text's walks alone
set_option linter.unusedVariables false
set_option linter.unusedSimpArgs false

attribute [local go_sem high] eqA24
/-! ### massiflaw03_PlaceRow: function 9 -/
mutual
def massiflaw03_PlaceRow.l0 : Nat → Int → Int → List Int → Int → Option (Bool)
  | 0, _, _, _, _ => none
  | k + 1, x0, x3, x4, x5 => if x5 < (IntKind.u64.wrap (x0)) then (massiflaw03_PlaceRow.l1 k x0 x3 x4 x5 0 x5) else (some true)
def massiflaw03_PlaceRow.l1 : Nat → Int → Int → List Int → Int → Int → Int → Option (Bool)
  | 0, _, _, _, _, _, _ => none
  | k + 1, x0, x3, x4, x5, x6, x7 => (place_Block.f k x3).bind fun bt169 => ((place_Of.f k x6 x7).bind fun bt173 => (if bt169.2.2 = true then (if bt173.2 = true then (if (!(bt169.1 == x6) || (!(bt169.2.1 == x7))) = true then (massiflaw03_PlaceRow.j2 k x0 x3 x4 x5 x6 x7 true) else (massiflaw03_PlaceRow.j2 k x0 x3 x4 x5 x6 x7 (bt173.1 != x3))) else (massiflaw03_PlaceRow.j2 k x0 x3 x4 x5 x6 x7 true)) else (massiflaw03_PlaceRow.j2 k x0 x3 x4 x5 x6 x7 true)))
def massiflaw03_PlaceRow.j2 : Nat → Int → Int → List Int → Int → Int → Int → Bool → Option (Bool)
  | 0, _, _, _, _, _, _, _ => none
  | k + 1, x0, x3, x4, x5, x6, x7, x56 => if x56 = true then (some false) else (if (Int.tmod x7 2) = 0 then (if x4.length < 17592186044416 then ((some (x4 ++ [IntKind.u64.wrap ((IntKind.u64.wrap (x3 + 1)) - 1)] : List Int)).bind fun y178 => ((place_Nodes.f k (IntKind.u64.wrap (x5 + 1))).bind fun bt181 => (if bt181.2 = true then (if bt181.1 = (IntKind.u64.wrap (x3 + 1)) then ((place_Peaks.f k (IntKind.u64.wrap (x5 + 1))).bind fun t183 => ((massiflaw03_same.f k t183 y178).bind fun t186 => (if t186 = true then (massiflaw03_PlaceRow.l0 k x0 (IntKind.u64.wrap (x3 + 1)) y178 (IntKind.u64.wrap (x5 + 1))) else (some false)))) else (some false)) else (some false)))) else (none)) else (if 0 ≤ (wrap64 ((x4.length : Int) - 1)) then (if (wrap64 ((x4.length : Int) - 1)) ≤ (x4.length : Int) then (massiflaw03_PlaceRow.l1 k x0 (IntKind.u64.wrap (x3 + 1)) (x4.take ((wrap64 ((x4.length : Int) - 1)) : Int).toNat) x5 (wrap64 (x6 + 1)) (IntKind.u64.wrap (Int.tdiv x7 2))) else (none)) else (none)))
end
def massiflaw03_PlaceRow.f (k : Nat) (a0 : Int) : Option (Bool) := (massiflaw03_alive.f k).bind fun t168 => (if t168 = true then (massiflaw03_PlaceRow.l0 k (wrap64 (Int.tmod (IntKind.u64.wrap (a0)) 260)) 0 ([] : List Int) 0) else (some false))
theorem massiflaw03_PlaceRow.mono_l : ∀ k, (∀ y0 y1 y2 y3, LeO (massiflaw03_PlaceRow.l0 k y0 y1 y2 y3) (massiflaw03_PlaceRow.l0 (k + 1) y0 y1 y2 y3)) ∧ (∀ y0 y1 y2 y3 y4 y5, LeO (massiflaw03_PlaceRow.l1 k y0 y1 y2 y3 y4 y5) (massiflaw03_PlaceRow.l1 (k + 1) y0 y1 y2 y3 y4 y5)) ∧ (∀ y0 y1 y2 y3 y4 y5 y6, LeO (massiflaw03_PlaceRow.j2 k y0 y1 y2 y3 y4 y5 y6) (massiflaw03_PlaceRow.j2 (k + 1) y0 y1 y2 y3 y4 y5 y6))
  | 0 => ⟨fun _ _ _ _ r h => by simp [massiflaw03_PlaceRow.l0] at h, fun _ _ _ _ _ _ r h => by simp [massiflaw03_PlaceRow.l1] at h, fun _ _ _ _ _ _ _ r h => by simp [massiflaw03_PlaceRow.j2] at h⟩
  | k + 1 => by
    obtain ⟨ih0, ih1, ih2⟩ := massiflaw03_PlaceRow.mono_l k
    refine ⟨?_, ?_, ?_⟩
    · intro y0 y1 y2 y3
      unfold massiflaw03_PlaceRow.l0
      repeat' first
      | (with_reducible exact ih0 _ _ _ _)
      | (with_reducible exact ih1 _ _ _ _ _ _)
      | (with_reducible exact ih2 _ _ _ _ _ _ _)
      | (with_reducible exact massiflaw03_alive.mono _)
      | (with_reducible exact massiflaw03_same.mono _ _ _)
      | (with_reducible exact place_Block.mono _ _)
      | (with_reducible exact place_Nodes.mono _ _)
      | (with_reducible exact place_Of.mono _ _ _)
      | (with_reducible exact place_Peaks.mono _ _)
      | (with_reducible exact LeO.refl _)
      | (with_reducible exact LeO.none _)
      | (with_reducible refine LeO.ite ?_ ?_)
      | (with_reducible refine LeO.bind ?_ (fun _ => ?_))
      | exact ih0 _ _ _ _
      | exact ih1 _ _ _ _ _ _
      | exact ih2 _ _ _ _ _ _ _
      | exact massiflaw03_alive.mono _
      | exact massiflaw03_same.mono _ _ _
      | exact place_Block.mono _ _
      | exact place_Nodes.mono _ _
      | exact place_Of.mono _ _ _
      | exact place_Peaks.mono _ _
      | exact LeO.none _
      | refine LeO.ite ?_ ?_
      | refine LeO.bind ?_ (fun _ => ?_)
    · intro y0 y1 y2 y3 y4 y5
      unfold massiflaw03_PlaceRow.l1
      repeat' first
      | (with_reducible exact ih0 _ _ _ _)
      | (with_reducible exact ih1 _ _ _ _ _ _)
      | (with_reducible exact ih2 _ _ _ _ _ _ _)
      | (with_reducible exact massiflaw03_alive.mono _)
      | (with_reducible exact massiflaw03_same.mono _ _ _)
      | (with_reducible exact place_Block.mono _ _)
      | (with_reducible exact place_Nodes.mono _ _)
      | (with_reducible exact place_Of.mono _ _ _)
      | (with_reducible exact place_Peaks.mono _ _)
      | (with_reducible exact LeO.refl _)
      | (with_reducible exact LeO.none _)
      | (with_reducible refine LeO.ite ?_ ?_)
      | (with_reducible refine LeO.bind ?_ (fun _ => ?_))
      | exact ih0 _ _ _ _
      | exact ih1 _ _ _ _ _ _
      | exact ih2 _ _ _ _ _ _ _
      | exact massiflaw03_alive.mono _
      | exact massiflaw03_same.mono _ _ _
      | exact place_Block.mono _ _
      | exact place_Nodes.mono _ _
      | exact place_Of.mono _ _ _
      | exact place_Peaks.mono _ _
      | exact LeO.none _
      | refine LeO.ite ?_ ?_
      | refine LeO.bind ?_ (fun _ => ?_)
    · intro y0 y1 y2 y3 y4 y5 y6
      unfold massiflaw03_PlaceRow.j2
      repeat' first
      | (with_reducible exact ih0 _ _ _ _)
      | (with_reducible exact ih1 _ _ _ _ _ _)
      | (with_reducible exact ih2 _ _ _ _ _ _ _)
      | (with_reducible exact massiflaw03_alive.mono _)
      | (with_reducible exact massiflaw03_same.mono _ _ _)
      | (with_reducible exact place_Block.mono _ _)
      | (with_reducible exact place_Nodes.mono _ _)
      | (with_reducible exact place_Of.mono _ _ _)
      | (with_reducible exact place_Peaks.mono _ _)
      | (with_reducible exact LeO.refl _)
      | (with_reducible exact LeO.none _)
      | (with_reducible refine LeO.ite ?_ ?_)
      | (with_reducible refine LeO.bind ?_ (fun _ => ?_))
      | exact ih0 _ _ _ _
      | exact ih1 _ _ _ _ _ _
      | exact ih2 _ _ _ _ _ _ _
      | exact massiflaw03_alive.mono _
      | exact massiflaw03_same.mono _ _ _
      | exact place_Block.mono _ _
      | exact place_Nodes.mono _ _
      | exact place_Of.mono _ _ _
      | exact place_Peaks.mono _ _
      | exact LeO.none _
      | refine LeO.ite ?_ ?_
      | refine LeO.bind ?_ (fun _ => ?_)
theorem massiflaw03_PlaceRow.mono : ∀ a0 k, LeO (massiflaw03_PlaceRow.f k a0) (massiflaw03_PlaceRow.f (k + 1) a0) := by
  intro a0 k
  obtain ⟨ih0, ih1, ih2⟩ := massiflaw03_PlaceRow.mono_l k
  unfold massiflaw03_PlaceRow.f
  repeat' first
      | (with_reducible exact ih0 _ _ _ _)
      | (with_reducible exact ih1 _ _ _ _ _ _)
      | (with_reducible exact ih2 _ _ _ _ _ _ _)
      | (with_reducible exact massiflaw03_alive.mono _)
      | (with_reducible exact massiflaw03_same.mono _ _ _)
      | (with_reducible exact place_Block.mono _ _)
      | (with_reducible exact place_Nodes.mono _ _)
      | (with_reducible exact place_Of.mono _ _ _)
      | (with_reducible exact place_Peaks.mono _ _)
      | (with_reducible exact LeO.refl _)
      | (with_reducible exact LeO.none _)
      | (with_reducible refine LeO.ite ?_ ?_)
      | (with_reducible refine LeO.bind ?_ (fun _ => ?_))
      | exact ih0 _ _ _ _
      | exact ih1 _ _ _ _ _ _
      | exact ih2 _ _ _ _ _ _ _
      | exact massiflaw03_alive.mono _
      | exact massiflaw03_same.mono _ _ _
      | exact place_Block.mono _ _
      | exact place_Nodes.mono _ _
      | exact place_Of.mono _ _ _
      | exact place_Peaks.mono _ _
      | exact LeO.none _
      | refine LeO.ite ?_ ?_
      | refine LeO.bind ?_ (fun _ => ?_)
set_option maxHeartbeats 8000000 in
set_option maxRecDepth 100000 in
theorem massiflaw03_PlaceRow.calls (k : Nat) (a0 : Int) (r : Bool) (w : World) (h : massiflaw03_PlaceRow.f k a0 = some r) :
    Calls Try.prog 9 #[.int .i64 a0] w fun e w' => e = .returned (.bool r) ∧ Below w.heap.size w w' := by
  have hu24 := Try.underlying24
  have HB := Aside0.mk (Below.refl w.heap.size w)
  have H : ((massiflaw03_alive.f k).bind fun t168 => (if t168 = true then (massiflaw03_PlaceRow.l0 k (wrap64 (Int.tmod (IntKind.u64.wrap (a0)) 260)) 0 ([] : List Int) 0) else (some false))) = some r := h
  clear h
  replace H := Option.bind_eq_some_iff.mp H
  obtain ⟨t168, A20, H⟩ := H
  replace H : (if t168 = true then (massiflaw03_PlaceRow.l0 k (wrap64 (Int.tmod (IntKind.u64.wrap (a0)) 260)) 0 ([] : List Int) 0) else (some false)) = some r := H
  have A2 := Aside0.mk A20
  clear A20
  by_cases c3 : t168 = true
  · subst c3
    have H1 : (massiflaw03_PlaceRow.l0 k (wrap64 (Int.tmod (IntKind.u64.wrap (a0)) 260)) 0 ([] : List Int) 0) = some r := by rw [if_pos rfl] at H; exact H
    clear H
    have H := H1
    clear H1
    have H' := Aside0.mk H
    clear H
    go_enter Try.func9, Try.ntmps9
    go_wp2_with (first | ((with_reducible refine gate_callee (f := 11) rfl ?_); refine goesL_ (some 14) rfl rfl Try.func11 (by kernel_rfl) rfl #[] rfl (by (try simp only [List.map_toArray, List.map_cons, List.map_nil]); first | done | rfl | (simp only [List.length_drop, List.length_take]; rfl)) ?_; (with_reducible refine (massiflaw03_alive.calls k  true _ A2.out).mono ?_); rintro e w4 ⟨rfl, hb⟩; refine ⟨_, rfl, ?_⟩; have n0_ := Aside0.mk (below_step (by repeat (first | (with_reducible first | exact HB.out | apply below_alloc | apply pw_below_drewN | apply below_drew1) | exact HB.out)) hb); clear HB; have HB := n0_; clear n0_; (try clear hb); (try clear hb2); (try clear hk); (try clear hi)))
    go_loopg [3, 4, 5] k (fun kq v3 v4 v5 w' => ∃ (x3_1 : Int) (x4_1 : List Int) (x5_1 : Int), v3 = .int .u64 x3_1 ∧ v5 = .int .u64 x5_1 ∧ Aside0 (massiflaw03_PlaceRow.l0 kq (wrap64 (Int.tmod (IntKind.u64.wrap (a0)) 260)) x3_1 x4_1 x5_1 = some r) ∧ Aside0 (kq ≤ k) ∧ Aside0 (Kd.R (Kd.int .u64) 22 w' w.heap.size (fun _ => True) v4 x4_1) ∧ Aside0 (Below w.heap.size w w'))
    case atStart => exact ⟨(0), (([] : List Int)), (0), (by first | rfl | (simp; done) | (simp [*]; done)), (by first | rfl | (simp; done) | (simp [*]; done)), H', ⟨Nat.le_refl _⟩, ⟨by first | exact Kd.R_nil _ _ _ _ _ | exact Kd.N_nil _ _ _ _ _ | exact Kd.V_nil _ _ _ _ _ | exact Kd.Q_nil _ _ _ _ _ | exact Kd.S_nil _ _ _ _ _⟩, ⟨by repeat (first | (with_reducible first | exact HB.out | apply below_alloc | apply pw_below_drewN | apply below_drew1) | exact HB.out)⟩⟩
    case round =>
      clear H'
      try clear c1
      try clear p2
      try clear c3
      obtain ⟨x3_1, x4_1, x5_1, rfl, rfl, HA, HK1, HO_4, HB⟩ := hrel
      cases gk with
      | zero => exact absurd HA.out (by simp [massiflaw03_PlaceRow.l0])
      | succ k1 =>
        have H := HA.out
        clear HA
        simp only [massiflaw03_PlaceRow.l0] at H
        by_cases c5 : x5_1 < (IntKind.u64.wrap ((wrap64 (Int.tmod (IntKind.u64.wrap (a0)) 260))))
        · rw [if_pos c5] at H
          have c5b0 : decide (x5_1 < (IntKind.u64.wrap ((wrap64 (Int.tmod (IntKind.u64.wrap (a0)) 260))))) = true := decide_eq_true c5
          clear c5
          have H' := Aside0.mk H
          clear H
          go_wp2
          go_loopg [3, 4, 6, 7] k1 (fun kq v3 v4 v6 v7 w' => ∃ (x3_2 : Int) (x4_2 : List Int) (x6_2 : Int) (x7_2 : Int), v3 = .int .u64 x3_2 ∧ v6 = .int .i64 x6_2 ∧ v7 = .int .u64 x7_2 ∧ Aside0 (massiflaw03_PlaceRow.l1 kq (wrap64 (Int.tmod (IntKind.u64.wrap (a0)) 260)) x3_2 x4_2 x5_1 x6_2 x7_2 = some r) ∧ Aside0 (kq ≤ k1) ∧ Aside0 (Kd.R (Kd.int .u64) 22 w' w.heap.size (fun _ => True) v4 x4_2) ∧ Aside0 (Below w.heap.size w w'))
          case atStart => exact ⟨(x3_1), (x4_1), (0), (x5_1), (by first | rfl | (simp; done) | (simp [*]; done)), (by first | rfl | (simp; done) | (simp [*]; done)), (by first | rfl | (simp; done) | (simp [*]; done)), H', ⟨Nat.le_refl _⟩, ⟨by (with_reducible repeat (first | apply Kd.R_alloc | apply Kd.R_drewN | apply Kd.R_drew)); exact HO_4.out⟩, ⟨by repeat (first | (with_reducible first | exact HB.out | apply below_alloc | apply pw_below_drewN | apply below_drew1) | exact HB.out)⟩⟩
          case round =>
            clear H'
            try clear c1
            try clear p2
            try clear c3
            try clear c5
            try clear c5b0
            try clear p2
            obtain ⟨x3_2, x4_2, x6_2, x7_2, rfl, rfl, rfl, HA, HK2, HO_4, HB⟩ := hrel
            cases gk with
            | zero => exact absurd HA.out (by simp [massiflaw03_PlaceRow.l1])
            | succ k2 =>
              have H := HA.out
              clear HA
              simp only [massiflaw03_PlaceRow.l1] at H
              replace H := Option.bind_eq_some_iff.mp H
              obtain ⟨⟨t169, t170, t171⟩, A60, H⟩ := H
              replace H : ((place_Of.f k2 x6_2 x7_2).bind fun bt173 => (if t171 = true then (if bt173.2 = true then (if (!(t169 == x6_2) || (!(t170 == x7_2))) = true then (massiflaw03_PlaceRow.j2 k2 (wrap64 (Int.tmod (IntKind.u64.wrap (a0)) 260)) x3_2 x4_2 x5_1 x6_2 x7_2 true) else (massiflaw03_PlaceRow.j2 k2 (wrap64 (Int.tmod (IntKind.u64.wrap (a0)) 260)) x3_2 x4_2 x5_1 x6_2 x7_2 (bt173.1 != x3_2))) else (massiflaw03_PlaceRow.j2 k2 (wrap64 (Int.tmod (IntKind.u64.wrap (a0)) 260)) x3_2 x4_2 x5_1 x6_2 x7_2 true)) else (massiflaw03_PlaceRow.j2 k2 (wrap64 (Int.tmod (IntKind.u64.wrap (a0)) 260)) x3_2 x4_2 x5_1 x6_2 x7_2 true))) = some r := H
              have A6 := Aside0.mk A60
              clear A60
              replace H := Option.bind_eq_some_iff.mp H
              obtain ⟨⟨t173, t174⟩, A70, H⟩ := H
              replace H : (if t171 = true then (if t174 = true then (if (!(t169 == x6_2) || (!(t170 == x7_2))) = true then (massiflaw03_PlaceRow.j2 k2 (wrap64 (Int.tmod (IntKind.u64.wrap (a0)) 260)) x3_2 x4_2 x5_1 x6_2 x7_2 true) else (massiflaw03_PlaceRow.j2 k2 (wrap64 (Int.tmod (IntKind.u64.wrap (a0)) 260)) x3_2 x4_2 x5_1 x6_2 x7_2 (t173 != x3_2))) else (massiflaw03_PlaceRow.j2 k2 (wrap64 (Int.tmod (IntKind.u64.wrap (a0)) 260)) x3_2 x4_2 x5_1 x6_2 x7_2 true)) else (massiflaw03_PlaceRow.j2 k2 (wrap64 (Int.tmod (IntKind.u64.wrap (a0)) 260)) x3_2 x4_2 x5_1 x6_2 x7_2 true)) = some r := H
              have A7 := Aside0.mk A70
              clear A70
              have HC8 := Aside0.mk H
              clear H
              go_upto_region 13 with (first | ((with_reducible refine gate_callee (f := 21) rfl ?_); refine goesL_ (some 29) rfl rfl Try.func21 (by kernel_rfl) rfl #[.int .u64 x3_2] rfl (by (try simp only [List.map_toArray, List.map_cons, List.map_nil]); first | done | rfl | (simp only [List.length_drop, List.length_take]; rfl)) ?_; (with_reducible refine (place_Block.calls k2 x3_2 t169 t170 t171 _ A6.out).mono ?_); rintro e w9 ⟨rfl, hb⟩; refine ⟨_, rfl, ?_⟩; have n0_ := Aside0.mk (Kd.R_below (by (with_reducible repeat (first | apply Kd.R_alloc | apply Kd.R_drewN | apply Kd.R_drew)); exact HO_4.out) hb); have n1_ := Aside0.mk (below_step (by repeat (first | (with_reducible first | exact HB.out | apply below_alloc | apply pw_below_drewN | apply below_drew1) | exact HB.out)) hb); clear HO_4; clear HB; have HO_4 := n0_; have HB := n1_; clear n0_ n1_; (try clear hb); (try clear hb2); (try clear hk); (try clear hi)) | ((with_reducible refine gate_dst (N := 8) rfl ?_); refine box_event ?hg (N := 8) ?hd (cs := #[.int .i64 0, .int .u64 0]) (t := 24) ?hr ?_; (case hd => rfl); (case hg => rfl); (case hr => first | (go_simp; done) | (go_simp; rfl)); intro gb172 hg w10 hbox hb; have n0_ := Aside0.mk (Kd.R_below (by (with_reducible repeat (first | apply Kd.R_alloc | apply Kd.R_drewN | apply Kd.R_drew)); exact HO_4.out) hb); have n1_ := Aside0.mk (below_step (by repeat (first | (with_reducible first | exact HB.out | apply below_alloc | apply pw_below_drewN | apply below_drew1) | exact HB.out)) hb); have n2_ := Aside0.mk (hbox); have n3_ := Aside0.mk ((by rw [hg]; exact (below_size (by repeat (first | (with_reducible first | exact HB.out | apply below_alloc | apply pw_below_drewN | apply below_drew1) | exact HB.out))) : w.heap.size ≤ gb172)); have n4_ := Aside0.mk ((by rw [hg]; exact (below_size (by repeat (first | (with_reducible first | exact HB.out | apply below_alloc | apply pw_below_drewN | apply below_drew1) | exact HB.out))) : w.heap.size ≤ gb172)); clear HO_4; clear HB; have HO_4 := n0_; have HB := n1_; have BK172 := n2_; have GW172 := n3_; have GE172 := n4_; clear n0_ n1_ n2_ n3_ n4_; clear hb hbox hg; have hcz11_0 : w10.cell? ⟨gb172, 0, none⟩ = some (.int .i64 0) := (blk_cell BK172.out 0).trans rfl; have hcz11_1 : w10.cell? ⟨gb172, 1, none⟩ = some (.int .u64 0) := (blk_cell BK172.out 1).trans rfl; have hfz11_0 := blk_frozen BK172.out 0; have hfz11_1 := blk_frozen BK172.out 1) | ((with_reducible refine gate_callee (f := 16) rfl ?_); refine goesL_ (some 36) rfl rfl Try.func16 (by kernel_rfl) rfl #[.agg #[.int .i64 x6_2, .int .u64 x7_2]] rfl (by (try simp only [List.map_toArray, List.map_cons, List.map_nil]); first | done | rfl | (simp only [List.length_drop, List.length_take]; rfl)) ?_; (with_reducible refine (place_Of.calls k2 x6_2 x7_2 t173 t174 _ A7.out).mono ?_); rintro e w12 ⟨rfl, hb⟩; refine ⟨_, rfl, ?_⟩; have n0_ := Aside0.mk (Kd.R_below (by (with_reducible repeat (first | apply Kd.R_alloc | apply Kd.R_drewN | apply Kd.R_drew)); exact (Kd.R_mono (Kd.R_far (p := ⟨gb172, 1, none⟩) (Kd.R_far (p := ⟨gb172, 0, none⟩) (Kd.R_types HO_4.out BK172.out (by decide)) (fun _ hk => hk.2) (.int .i64 t169)) (fun _ hk => hk.2) (.int .u64 t170)) (fun _ h_ => h_.1))) hb); have n1_ := Aside0.mk (blk_below (g := gb172) (o := .cells #[.int .i64 t169, .int .u64 t170] 24 (0, 0)) (by (with_reducible repeat (first | refine blk_drewN ?_ _ | refine blk_drew ?_ | refine blk_alloc ?_ _)); refine blk_put (cs := #[.int .i64 t169, .int .u64 0]) ?_ 1 _ rfl; (with_reducible repeat (first | refine blk_drewN ?_ _ | refine blk_drew ?_ | refine blk_alloc ?_ _)); refine blk_put (cs := #[.int .i64 0, .int .u64 0]) ?_ 0 _ rfl; (with_reducible repeat (first | refine blk_drewN ?_ _ | refine blk_drew ?_ | refine blk_alloc ?_ _)); exact BK172.out) hb); have n2_ := Aside0.mk (below_step (by repeat (first | (with_reducible first | exact HB.out | apply below_alloc | apply pw_below_drewN | apply below_drew1 | refine below_set ?_ GE172.out) | exact HB.out)) hb); clear HO_4; clear BK172; clear HB; have HO_4 := n0_; have BK172 := n1_; have HB := n2_; clear n0_ n1_ n2_; (try clear hb); (try clear hb2); (try clear hk); (try clear hi)))
              (try simp only [Act.put, List.setIfInBounds_toArray, List.set_cons_zero, List.set_cons_succ])
              go_cut [56] (fun v56 wc => ∃ (kq : Nat) (x56_7 : Bool), v56 = .bool x56_7 ∧ Aside0 (massiflaw03_PlaceRow.j2 kq (wrap64 (Int.tmod (IntKind.u64.wrap (a0)) 260)) x3_2 x4_2 x5_1 x6_2 x7_2 x56_7 = some r) ∧ Aside0 (kq ≤ k2) ∧ Aside0 (Kd.R (Kd.int .u64) 22 wc w.heap.size (fun _ => True) u4 x4_2) ∧ Aside0 (wc.heap[gb172]? = some (.cells #[.int .i64 t169, .int .u64 t170] 24 (0, 0))) ∧ Aside0 (Below w.heap.size w wc))
              case first =>
                have H := HC8.out
                clear HC8
                by_cases c13 : t171 = true
                · subst c13
                  have H1 : (if t174 = true then (if (!(t169 == x6_2) || (!(t170 == x7_2))) = true then (massiflaw03_PlaceRow.j2 k2 (wrap64 (Int.tmod (IntKind.u64.wrap (a0)) 260)) x3_2 x4_2 x5_1 x6_2 x7_2 true) else (massiflaw03_PlaceRow.j2 k2 (wrap64 (Int.tmod (IntKind.u64.wrap (a0)) 260)) x3_2 x4_2 x5_1 x6_2 x7_2 (t173 != x3_2))) else (massiflaw03_PlaceRow.j2 k2 (wrap64 (Int.tmod (IntKind.u64.wrap (a0)) 260)) x3_2 x4_2 x5_1 x6_2 x7_2 true)) = some r := by rw [if_pos rfl] at H; exact H
                  clear H
                  have H := H1
                  clear H1
                  by_cases c14 : t174 = true
                  · subst c14
                    have H1 : (if (!(t169 == x6_2) || (!(t170 == x7_2))) = true then (massiflaw03_PlaceRow.j2 k2 (wrap64 (Int.tmod (IntKind.u64.wrap (a0)) 260)) x3_2 x4_2 x5_1 x6_2 x7_2 true) else (massiflaw03_PlaceRow.j2 k2 (wrap64 (Int.tmod (IntKind.u64.wrap (a0)) 260)) x3_2 x4_2 x5_1 x6_2 x7_2 (t173 != x3_2))) = some r := by rw [if_pos rfl] at H; exact H
                    clear H
                    have H := H1
                    clear H1
                    by_cases c15 : (!(t169 == x6_2) || (!(t170 == x7_2))) = true
                    · rw [if_pos c15] at H
                      have c15b0 : (!(t169 == x6_2) || (!(t170 == x7_2))) = true := c15
                      clear c15
                      (first | rw [c15b0] | (simp only [i64_w, i32_w]; rw [c15b0]) | skip)
                      have H' := Aside0.mk H
                      clear H
                      have hcz16_0 : w12.cell? ⟨gb172, 0, none⟩ = some (.int .i64 t169) := (blk_cell BK172.out 0).trans rfl
                      have hcz16_1 : w12.cell? ⟨gb172, 1, none⟩ = some (.int .u64 t170) := (blk_cell BK172.out 1).trans rfl
                      have hfz16_0 := blk_frozen BK172.out 0
                      have hfz16_1 := blk_frozen BK172.out 1
                      go_wp2
                      go_meet
                      case rel => exact ⟨_, (true), (by first | rfl | (simp; done) | (simp [*]; done)), H', ⟨by have := HK1.out; have := HK2.out; first | omega | exact Nat.le_refl _⟩, ⟨by (with_reducible repeat (first | apply Kd.R_alloc | apply Kd.R_drewN | apply Kd.R_drew)); exact HO_4.out⟩, ⟨by (with_reducible repeat (first | refine blk_drewN ?_ _ | refine blk_drew ?_ | refine blk_alloc ?_ _)); exact BK172.out⟩, ⟨by repeat (first | (with_reducible first | exact HB.out | apply below_alloc | apply pw_below_drewN | apply below_drew1 | refine below_set ?_ GE172.out) | exact HB.out)⟩⟩
                    · rw [if_neg c15] at H
                      have c15b0 : (!(t169 == x6_2) || (!(t170 == x7_2))) = false := by simpa using c15
                      clear c15
                      (first | rw [c15b0] | (simp only [i64_w, i32_w]; rw [c15b0]) | skip)
                      have H' := Aside0.mk H
                      clear H
                      have hcz17_0 : w12.cell? ⟨gb172, 0, none⟩ = some (.int .i64 t169) := (blk_cell BK172.out 0).trans rfl
                      have hcz17_1 : w12.cell? ⟨gb172, 1, none⟩ = some (.int .u64 t170) := (blk_cell BK172.out 1).trans rfl
                      have hfz17_0 := blk_frozen BK172.out 0
                      have hfz17_1 := blk_frozen BK172.out 1
                      go_wp2
                      go_meet
                      case rel => exact ⟨_, ((t173 != x3_2)), (by first | rfl | (simp; done) | (simp [*]; done)), H', ⟨by have := HK1.out; have := HK2.out; first | omega | exact Nat.le_refl _⟩, ⟨by (with_reducible repeat (first | apply Kd.R_alloc | apply Kd.R_drewN | apply Kd.R_drew)); exact HO_4.out⟩, ⟨by (with_reducible repeat (first | refine blk_drewN ?_ _ | refine blk_drew ?_ | refine blk_alloc ?_ _)); exact BK172.out⟩, ⟨by repeat (first | (with_reducible first | exact HB.out | apply below_alloc | apply pw_below_drewN | apply below_drew1 | refine below_set ?_ GE172.out) | exact HB.out)⟩⟩
                  · replace c14 := Bool.eq_false_iff.mpr c14
                    subst c14
                    have H1 : (massiflaw03_PlaceRow.j2 k2 (wrap64 (Int.tmod (IntKind.u64.wrap (a0)) 260)) x3_2 x4_2 x5_1 x6_2 x7_2 true) = some r := by rw [if_neg (show ¬ (false = true) by decide)] at H; exact H
                    clear H
                    have H := H1
                    clear H1
                    have H' := Aside0.mk H
                    clear H
                    go_wp2
                    go_meet
                    case rel => exact ⟨_, (true), (by first | rfl | (simp; done) | (simp [*]; done)), H', ⟨by have := HK1.out; have := HK2.out; first | omega | exact Nat.le_refl _⟩, ⟨by (with_reducible repeat (first | apply Kd.R_alloc | apply Kd.R_drewN | apply Kd.R_drew)); exact HO_4.out⟩, ⟨by (with_reducible repeat (first | refine blk_drewN ?_ _ | refine blk_drew ?_ | refine blk_alloc ?_ _)); exact BK172.out⟩, ⟨by repeat (first | (with_reducible first | exact HB.out | apply below_alloc | apply pw_below_drewN | apply below_drew1 | refine below_set ?_ GE172.out) | exact HB.out)⟩⟩
                · replace c13 := Bool.eq_false_iff.mpr c13
                  subst c13
                  have H1 : (massiflaw03_PlaceRow.j2 k2 (wrap64 (Int.tmod (IntKind.u64.wrap (a0)) 260)) x3_2 x4_2 x5_1 x6_2 x7_2 true) = some r := by rw [if_neg (show ¬ (false = true) by decide)] at H; exact H
                  clear H
                  have H := H1
                  clear H1
                  have H' := Aside0.mk H
                  clear H
                  go_wp2
                  go_meet
                  case rel => exact ⟨_, (true), (by first | rfl | (simp; done) | (simp [*]; done)), H', ⟨by have := HK1.out; have := HK2.out; first | omega | exact Nat.le_refl _⟩, ⟨by (with_reducible repeat (first | apply Kd.R_alloc | apply Kd.R_drewN | apply Kd.R_drew)); exact HO_4.out⟩, ⟨by (with_reducible repeat (first | refine blk_drewN ?_ _ | refine blk_drew ?_ | refine blk_alloc ?_ _)); exact BK172.out⟩, ⟨by repeat (first | (with_reducible first | exact HB.out | apply below_alloc | apply pw_below_drewN | apply below_drew1 | refine below_set ?_ GE172.out) | exact HB.out)⟩⟩
              case rest =>
                clear HC8
                try clear c1
                try clear c2
                try clear p2
                try clear c3
                try clear c5
                try clear c5b0
                try clear p6
                try clear c9
                try clear c11
                try clear c13
                try clear c14
                try clear c15
                try clear c15b0
                try clear c16
                try clear hcz11_0
                try clear hcz11_1
                try clear hcz16_0
                try clear hcz16_1
                try clear hcz17_0
                try clear hcz17_1
                try clear hfz11_0
                try clear hfz11_1
                try clear hfz16_0
                try clear hfz16_1
                try clear hfz17_0
                try clear hfz17_1
                try clear p2
                obtain ⟨kq, x56_7, rfl, HA, HJ7, HO_4, BK172, HB⟩ := hcut
                cases kq with
                | zero => exact absurd HA.out (by simp [massiflaw03_PlaceRow.j2])
                | succ kj7 =>
                  have H := HA.out
                  clear HA
                  simp only [massiflaw03_PlaceRow.j2] at H
                  by_cases c18 : x56_7 = true
                  · subst c18
                    have H1 : (some false) = some r := by rw [if_pos rfl] at H; exact H
                    clear H
                    have H := H1
                    clear H1
                    obtain rfl := Option.some.inj H
                    go_wp2
                    go_ret
                    exact ⟨by first | rfl | (simp [errW_none, errW_some] <;> rfl) | (simp [*, errW_none, errW_some] <;> rfl), by repeat (first | (with_reducible first | exact HB.out | apply below_alloc | apply pw_below_drewN | apply below_drew1 | refine below_set ?_ GE172.out) | exact HB.out)⟩
                  · replace c18 := Bool.eq_false_iff.mpr c18
                    subst c18
                    have H1 : (if (Int.tmod x7_2 2) = 0 then (if x4_2.length < 17592186044416 then ((some (x4_2 ++ [IntKind.u64.wrap ((IntKind.u64.wrap (x3_2 + 1)) - 1)] : List Int)).bind fun y178 => ((place_Nodes.f kj7 (IntKind.u64.wrap (x5_1 + 1))).bind fun bt181 => (if bt181.2 = true then (if bt181.1 = (IntKind.u64.wrap (x3_2 + 1)) then ((place_Peaks.f kj7 (IntKind.u64.wrap (x5_1 + 1))).bind fun t183 => ((massiflaw03_same.f kj7 t183 y178).bind fun t186 => (if t186 = true then (massiflaw03_PlaceRow.l0 kj7 (wrap64 (Int.tmod (IntKind.u64.wrap (a0)) 260)) (IntKind.u64.wrap (x3_2 + 1)) y178 (IntKind.u64.wrap (x5_1 + 1))) else (some false)))) else (some false)) else (some false)))) else (none)) else (if 0 ≤ (wrap64 ((x4_2.length : Int) - 1)) then (if (wrap64 ((x4_2.length : Int) - 1)) ≤ (x4_2.length : Int) then (massiflaw03_PlaceRow.l1 kj7 (wrap64 (Int.tmod (IntKind.u64.wrap (a0)) 260)) (IntKind.u64.wrap (x3_2 + 1)) (x4_2.take ((wrap64 ((x4_2.length : Int) - 1)) : Int).toNat) x5_1 (wrap64 (x6_2 + 1)) (IntKind.u64.wrap (Int.tdiv x7_2 2))) else (none)) else (none))) = some r := by rw [if_neg (show ¬ (false = true) by decide)] at H; exact H
                    clear H
                    have H := H1
                    clear H1
                    by_cases c19 : (Int.tmod x7_2 2) = 0
                    · rw [if_pos c19] at H
                      have c19b0 : ((Int.tmod x7_2 2) == 0) = true := beq_iff_eq.mpr c19
                      have c19b1 : ((Int.tmod x7_2 2) != 0) = false := bne_eq_false_iff_eq.mpr c19
                      clear c19
                      by_cases c20 : x4_2.length < 17592186044416
                      · rw [if_pos c20] at H
                        have LMc20 := Aside0.mk c20
                        clear c20
                        obtain ⟨y178, hy178⟩ : ∃ y_ : List Int, y_ = (x4_2 ++ [IntKind.u64.wrap ((IntKind.u64.wrap (x3_2 + 1)) - 1)]) := ⟨_, rfl⟩
                        replace H : ((place_Nodes.f kj7 (IntKind.u64.wrap (x5_1 + 1))).bind fun bt181 => (if bt181.2 = true then (if bt181.1 = (IntKind.u64.wrap (x3_2 + 1)) then ((place_Peaks.f kj7 (IntKind.u64.wrap (x5_1 + 1))).bind fun t183 => ((massiflaw03_same.f kj7 t183 y178).bind fun t186 => (if t186 = true then (massiflaw03_PlaceRow.l0 kj7 (wrap64 (Int.tmod (IntKind.u64.wrap (a0)) 260)) (IntKind.u64.wrap (x3_2 + 1)) y178 (IntKind.u64.wrap (x5_1 + 1))) else (some false)))) else (some false)) else (some false))) = some r := by first | (rw [hy178]; with_reducible exact H) | (have H2_ := (Option.bind_some _ _).symm.trans H; rw [hy178]; with_reducible exact H2_) | (have H2_ := (Option.bind_some _ _).symm.trans H; with_reducible exact H2_) | with_reducible exact H | (rw [hy178]; exact H) | exact H
                        have Ny178 := Aside0.mk hy178
                        clear hy178
                        replace H := Option.bind_eq_some_iff.mp H
                        obtain ⟨⟨t181, t182⟩, A210, H⟩ := H
                        replace H : (if t182 = true then (if t181 = (IntKind.u64.wrap (x3_2 + 1)) then ((place_Peaks.f kj7 (IntKind.u64.wrap (x5_1 + 1))).bind fun t183 => ((massiflaw03_same.f kj7 t183 y178).bind fun t186 => (if t186 = true then (massiflaw03_PlaceRow.l0 kj7 (wrap64 (Int.tmod (IntKind.u64.wrap (a0)) 260)) (IntKind.u64.wrap (x3_2 + 1)) y178 (IntKind.u64.wrap (x5_1 + 1))) else (some false)))) else (some false)) else (some false)) = some r := H
                        have A21 := Aside0.mk A210
                        clear A210
                        by_cases c22 : t182 = true
                        · subst c22
                          have H1 : (if t181 = (IntKind.u64.wrap (x3_2 + 1)) then ((place_Peaks.f kj7 (IntKind.u64.wrap (x5_1 + 1))).bind fun t183 => ((massiflaw03_same.f kj7 t183 y178).bind fun t186 => (if t186 = true then (massiflaw03_PlaceRow.l0 kj7 (wrap64 (Int.tmod (IntKind.u64.wrap (a0)) 260)) (IntKind.u64.wrap (x3_2 + 1)) y178 (IntKind.u64.wrap (x5_1 + 1))) else (some false)))) else (some false)) = some r := by rw [if_pos rfl] at H; exact H
                          clear H
                          have H := H1
                          clear H1
                          by_cases c23 : t181 = (IntKind.u64.wrap (x3_2 + 1))
                          · rw [if_pos c23] at H
                            have c23b0 : (t181 == (IntKind.u64.wrap (x3_2 + 1))) = true := beq_iff_eq.mpr c23
                            have c23b1 : (t181 != (IntKind.u64.wrap (x3_2 + 1))) = false := bne_eq_false_iff_eq.mpr c23
                            clear c23
                            replace H := Option.bind_eq_some_iff.mp H
                            obtain ⟨t183, A240, H⟩ := H
                            replace H : ((massiflaw03_same.f kj7 t183 y178).bind fun t186 => (if t186 = true then (massiflaw03_PlaceRow.l0 kj7 (wrap64 (Int.tmod (IntKind.u64.wrap (a0)) 260)) (IntKind.u64.wrap (x3_2 + 1)) y178 (IntKind.u64.wrap (x5_1 + 1))) else (some false))) = some r := H
                            have A24 := Aside0.mk A240
                            clear A240
                            replace H := Option.bind_eq_some_iff.mp H
                            obtain ⟨t186, A250, H⟩ := H
                            replace H : (if t186 = true then (massiflaw03_PlaceRow.l0 kj7 (wrap64 (Int.tmod (IntKind.u64.wrap (a0)) 260)) (IntKind.u64.wrap (x3_2 + 1)) y178 (IntKind.u64.wrap (x5_1 + 1))) else (some false)) = some r := H
                            have A25 := Aside0.mk A250
                            clear A250
                            by_cases c26 : t186 = true
                            · subst c26
                              have H1 : (massiflaw03_PlaceRow.l0 kj7 (wrap64 (Int.tmod (IntKind.u64.wrap (a0)) 260)) (IntKind.u64.wrap (x3_2 + 1)) y178 (IntKind.u64.wrap (x5_1 + 1))) = some r := by rw [if_pos rfl] at H; exact H
                              clear H
                              have H := H1
                              clear H1
                              have H' := Aside0.mk H
                              clear H
                              go_wp2_with (first | ((with_reducible refine gate_builtin (b := .append) (xs := #[.tmp 71, .tmp 74]) rfl ?_); at_builtin; refine Kd.R_append (Kd.int .u64) (w0 := w) w.heap.size rfl (.tmp 71) (.tmp 74) 30 22 (.int .u64 0) 8 rfl Try.underlying30 info22 rfl (by decide) (by omega) u4 x4_2 (IntKind.u64.wrap ((IntKind.u64.wrap (x3_2 + 1)) - 1)) [.int .u64 (IntKind.u64.wrap ((IntKind.u64.wrap (x3_2 + 1)) - 1))] (fun _ => True) (fun _ => False) rfl rfl ?aP (fun _ hk => hk.elim) ?aF ?aO ?aB ?aS ?aL ?_; (case aP => exact rfl); (case aB => exact (by repeat (first | (with_reducible first | exact HB.out | apply below_alloc | apply pw_below_drewN | apply below_drew1 | refine below_set ?_ GE172.out) | exact HB.out))); (case aF => exact (fun _ _ => trivial)); (case aO => exact (by (with_reducible repeat (first | apply Kd.R_alloc | apply Kd.R_drewN | apply Kd.R_drew)); exact HO_4.out)); (case aS => exact (below_size (by repeat (first | (with_reducible first | exact HB.out | apply below_alloc | apply pw_below_drewN | apply below_drew1 | refine below_set ?_ GE172.out) | exact HB.out)))); (case aL => have := LMc20.out; omega); intro v179 w27 ho hb hg hat; rw [← Ny178.out] at ho; have n0_ := Aside0.mk (blk_grown (g := gb172) (o := .cells #[.int .i64 t169, .int .u64 t170] 24 (0, 0)) (by (with_reducible repeat (first | refine blk_drewN ?_ _ | refine blk_drew ?_ | refine blk_alloc ?_ _)); exact BK172.out) hg (Kd.R_ne HO_4.out BK172.out (by decide))); have n1_ := Aside0.mk (hb); have n2_ := Aside0.mk (ho); clear BK172; clear HB; clear HO_4; have BK172 := n0_; have HB := n1_; have HO180 := n2_; clear n0_ n1_ n2_; clear ho hb hg hat) | ((with_reducible refine gate_callee (f := 12) rfl ?_); refine goesL_ (some 79) rfl rfl Try.func12 (by kernel_rfl) rfl #[.int .u64 (IntKind.u64.wrap (x5_1 + 1))] rfl (by (try simp only [List.map_toArray, List.map_cons, List.map_nil]); first | done | rfl | (simp only [List.length_drop, List.length_take]; rfl)) ?_; (with_reducible refine (place_Nodes.calls kj7 (IntKind.u64.wrap (x5_1 + 1)) t181 true _ A21.out).mono ?_); rintro e w' ⟨rfl, ⟨nd, rfl⟩⟩; refine ⟨_, rfl, ?_⟩) | (go_at_call 19; (with_reducible refine (place_Peaks.calls kj7 (IntKind.u64.wrap (x5_1 + 1)) t183 _ A24.out).mono ?_); rintro e w28 ⟨v184, rfl, ho0, hb⟩; have n0_ := Aside0.mk (Kd.R_elder' (by (with_reducible repeat (first | apply Kd.R_alloc | apply Kd.R_drewN | apply Kd.R_drew)); exact HO180.out) (Kd.R_base ho0) hb); have n1_ := Aside0.mk (Kd.R_lower (Kd.R_new' ho0 (Kd.R_lt (by (with_reducible repeat (first | apply Kd.R_alloc | apply Kd.R_drewN | apply Kd.R_drew)); exact HO180.out))) (below_size (by repeat (first | (with_reducible first | exact HB.out | apply below_alloc | apply pw_below_drewN | apply below_drew1 | refine below_set ?_ GE172.out) | exact HB.out)))); have n2_ := Aside0.mk (blk_below (g := gb172) (o := .cells #[.int .i64 t169, .int .u64 t170] 24 (0, 0)) (by (with_reducible repeat (first | refine blk_drewN ?_ _ | refine blk_drew ?_ | refine blk_alloc ?_ _)); exact BK172.out) hb); have n3_ := Aside0.mk (below_step (by repeat (first | (with_reducible first | exact HB.out | apply below_alloc | apply pw_below_drewN | apply below_drew1 | refine below_set ?_ GE172.out) | exact HB.out)) hb); clear HO180; clear BK172; clear HB; have HO180 := n0_; have HO185 := n1_; have BK172 := n2_; have HB := n3_; clear n0_ n1_ n2_ n3_; (try clear hb); (try clear hb2); (try clear hk); (try clear hi); (try clear ho0); obtain ⟨Ao29, co29, eo29⟩ := Kd.R_slice HO185.out; subst eo29; obtain ⟨Ao30, co30, eo30⟩ := Kd.R_slice HO180.out; subst eo30) | (go_at_call 18; (with_reducible refine (massiflaw03_same.calls kj7 _ _ t183 _ _ y178 true _ ?side1 ?side2 ?side3 ?side4 A25.out).mono ?_); (case side1 => repeat (first | exact (Kd.R_reads' HO185.out).2.2 | (with_reducible refine Kd.C_alloc ?_ _) | (with_reducible refine Kd.C_drewN ?_ _) | (with_reducible refine Kd.C_drew ?_))); (case side2 => exact (Kd.R_reads' HO185.out).2.1); (case side3 => repeat (first | exact (Kd.R_reads' HO180.out).2.2 | (with_reducible refine Kd.C_alloc ?_ _) | (with_reducible refine Kd.C_drewN ?_ _) | (with_reducible refine Kd.C_drew ?_))); (case side4 => exact (Kd.R_reads' HO180.out).2.1); rintro e w' ⟨rfl, ⟨nd, rfl⟩⟩))
                              go_roundg kj7
                              case measure => have := HK1.out; have := HK2.out; have := HJ7.out; omega
                              case rel => exact ⟨(IntKind.u64.wrap (x3_2 + 1)), (y178), (IntKind.u64.wrap (x5_1 + 1)), (by first | rfl | (simp; done) | (simp [*]; done)), (by first | rfl | (simp; done) | (simp [*]; done)), H', ⟨by have := HK1.out; have := HK2.out; have := HJ7.out; omega⟩, ⟨by (with_reducible repeat (first | apply Kd.R_alloc | apply Kd.R_drewN | apply Kd.R_drew)); exact Kd.R_mono HO180.out (fun _ hk => trivial)⟩, ⟨by repeat (first | (with_reducible first | exact HB.out | apply below_alloc | apply pw_below_drewN | apply below_drew1 | refine below_set ?_ GE172.out) | exact HB.out)⟩⟩
                            · replace c26 := Bool.eq_false_iff.mpr c26
                              subst c26
                              have H1 : (some false) = some r := by rw [if_neg (show ¬ (false = true) by decide)] at H; exact H
                              clear H
                              have H := H1
                              clear H1
                              obtain rfl := Option.some.inj H
                              go_wp2_with (first | ((with_reducible refine gate_builtin (b := .append) (xs := #[.tmp 71, .tmp 74]) rfl ?_); at_builtin; refine Kd.R_append (Kd.int .u64) (w0 := w) w.heap.size rfl (.tmp 71) (.tmp 74) 30 22 (.int .u64 0) 8 rfl Try.underlying30 info22 rfl (by decide) (by omega) u4 x4_2 (IntKind.u64.wrap ((IntKind.u64.wrap (x3_2 + 1)) - 1)) [.int .u64 (IntKind.u64.wrap ((IntKind.u64.wrap (x3_2 + 1)) - 1))] (fun _ => True) (fun _ => False) rfl rfl ?aP (fun _ hk => hk.elim) ?aF ?aO ?aB ?aS ?aL ?_; (case aP => exact rfl); (case aB => exact (by repeat (first | (with_reducible first | exact HB.out | apply below_alloc | apply pw_below_drewN | apply below_drew1 | refine below_set ?_ GE172.out) | exact HB.out))); (case aF => exact (fun _ _ => trivial)); (case aO => exact (by (with_reducible repeat (first | apply Kd.R_alloc | apply Kd.R_drewN | apply Kd.R_drew)); exact HO_4.out)); (case aS => exact (below_size (by repeat (first | (with_reducible first | exact HB.out | apply below_alloc | apply pw_below_drewN | apply below_drew1 | refine below_set ?_ GE172.out) | exact HB.out)))); (case aL => have := LMc20.out; omega); intro v179 w31 ho hb hg hat; rw [← Ny178.out] at ho; have n0_ := Aside0.mk (blk_grown (g := gb172) (o := .cells #[.int .i64 t169, .int .u64 t170] 24 (0, 0)) (by (with_reducible repeat (first | refine blk_drewN ?_ _ | refine blk_drew ?_ | refine blk_alloc ?_ _)); exact BK172.out) hg (Kd.R_ne HO_4.out BK172.out (by decide))); have n1_ := Aside0.mk (hb); have n2_ := Aside0.mk (ho); clear BK172; clear HB; clear HO_4; have BK172 := n0_; have HB := n1_; have HO180 := n2_; clear n0_ n1_ n2_; clear ho hb hg hat) | ((with_reducible refine gate_callee (f := 12) rfl ?_); refine goesL_ (some 79) rfl rfl Try.func12 (by kernel_rfl) rfl #[.int .u64 (IntKind.u64.wrap (x5_1 + 1))] rfl (by (try simp only [List.map_toArray, List.map_cons, List.map_nil]); first | done | rfl | (simp only [List.length_drop, List.length_take]; rfl)) ?_; (with_reducible refine (place_Nodes.calls kj7 (IntKind.u64.wrap (x5_1 + 1)) t181 true _ A21.out).mono ?_); rintro e w' ⟨rfl, ⟨nd, rfl⟩⟩; refine ⟨_, rfl, ?_⟩) | (go_at_call 19; (with_reducible refine (place_Peaks.calls kj7 (IntKind.u64.wrap (x5_1 + 1)) t183 _ A24.out).mono ?_); rintro e w32 ⟨v184, rfl, ho0, hb⟩; have n0_ := Aside0.mk (Kd.R_elder' (by (with_reducible repeat (first | apply Kd.R_alloc | apply Kd.R_drewN | apply Kd.R_drew)); exact HO180.out) (Kd.R_base ho0) hb); have n1_ := Aside0.mk (Kd.R_lower (Kd.R_new' ho0 (Kd.R_lt (by (with_reducible repeat (first | apply Kd.R_alloc | apply Kd.R_drewN | apply Kd.R_drew)); exact HO180.out))) (below_size (by repeat (first | (with_reducible first | exact HB.out | apply below_alloc | apply pw_below_drewN | apply below_drew1 | refine below_set ?_ GE172.out) | exact HB.out)))); have n2_ := Aside0.mk (blk_below (g := gb172) (o := .cells #[.int .i64 t169, .int .u64 t170] 24 (0, 0)) (by (with_reducible repeat (first | refine blk_drewN ?_ _ | refine blk_drew ?_ | refine blk_alloc ?_ _)); exact BK172.out) hb); have n3_ := Aside0.mk (below_step (by repeat (first | (with_reducible first | exact HB.out | apply below_alloc | apply pw_below_drewN | apply below_drew1 | refine below_set ?_ GE172.out) | exact HB.out)) hb); clear HO180; clear BK172; clear HB; have HO180 := n0_; have HO185 := n1_; have BK172 := n2_; have HB := n3_; clear n0_ n1_ n2_ n3_; (try clear hb); (try clear hb2); (try clear hk); (try clear hi); (try clear ho0); obtain ⟨Ao33, co33, eo33⟩ := Kd.R_slice HO185.out; subst eo33; obtain ⟨Ao34, co34, eo34⟩ := Kd.R_slice HO180.out; subst eo34) | (go_at_call 18; (with_reducible refine (massiflaw03_same.calls kj7 _ _ t183 _ _ y178 false _ ?side1 ?side2 ?side3 ?side4 A25.out).mono ?_); (case side1 => repeat (first | exact (Kd.R_reads' HO185.out).2.2 | (with_reducible refine Kd.C_alloc ?_ _) | (with_reducible refine Kd.C_drewN ?_ _) | (with_reducible refine Kd.C_drew ?_))); (case side2 => exact (Kd.R_reads' HO185.out).2.1); (case side3 => repeat (first | exact (Kd.R_reads' HO180.out).2.2 | (with_reducible refine Kd.C_alloc ?_ _) | (with_reducible refine Kd.C_drewN ?_ _) | (with_reducible refine Kd.C_drew ?_))); (case side4 => exact (Kd.R_reads' HO180.out).2.1); rintro e w' ⟨rfl, ⟨nd, rfl⟩⟩))
                              go_ret
                              exact ⟨by first | rfl | (simp [errW_none, errW_some] <;> rfl) | (simp [*, errW_none, errW_some] <;> rfl), by repeat (first | (with_reducible first | exact HB.out | apply below_alloc | apply pw_below_drewN | apply below_drew1 | refine below_set ?_ GE172.out) | exact HB.out)⟩
                          · rw [if_neg c23] at H
                            have c23b0 : (t181 == (IntKind.u64.wrap (x3_2 + 1))) = false := beq_eq_false_iff_ne.mpr c23
                            have c23b1 : (t181 != (IntKind.u64.wrap (x3_2 + 1))) = true := bne_iff_ne.mpr c23
                            obtain rfl := Option.some.inj H
                            go_wp2_with (first | ((with_reducible refine gate_builtin (b := .append) (xs := #[.tmp 71, .tmp 74]) rfl ?_); at_builtin; refine Kd.R_append (Kd.int .u64) (w0 := w) w.heap.size rfl (.tmp 71) (.tmp 74) 30 22 (.int .u64 0) 8 rfl Try.underlying30 info22 rfl (by decide) (by omega) u4 x4_2 (IntKind.u64.wrap ((IntKind.u64.wrap (x3_2 + 1)) - 1)) [.int .u64 (IntKind.u64.wrap ((IntKind.u64.wrap (x3_2 + 1)) - 1))] (fun _ => True) (fun _ => False) rfl rfl ?aP (fun _ hk => hk.elim) ?aF ?aO ?aB ?aS ?aL ?_; (case aP => exact rfl); (case aB => exact (by repeat (first | (with_reducible first | exact HB.out | apply below_alloc | apply pw_below_drewN | apply below_drew1 | refine below_set ?_ GE172.out) | exact HB.out))); (case aF => exact (fun _ _ => trivial)); (case aO => exact (by (with_reducible repeat (first | apply Kd.R_alloc | apply Kd.R_drewN | apply Kd.R_drew)); exact HO_4.out)); (case aS => exact (below_size (by repeat (first | (with_reducible first | exact HB.out | apply below_alloc | apply pw_below_drewN | apply below_drew1 | refine below_set ?_ GE172.out) | exact HB.out)))); (case aL => have := LMc20.out; omega); intro v179 w35 ho hb hg hat; rw [← Ny178.out] at ho; have n0_ := Aside0.mk (blk_grown (g := gb172) (o := .cells #[.int .i64 t169, .int .u64 t170] 24 (0, 0)) (by (with_reducible repeat (first | refine blk_drewN ?_ _ | refine blk_drew ?_ | refine blk_alloc ?_ _)); exact BK172.out) hg (Kd.R_ne HO_4.out BK172.out (by decide))); have n1_ := Aside0.mk (hb); have n2_ := Aside0.mk (ho); clear BK172; clear HB; clear HO_4; have BK172 := n0_; have HB := n1_; have HO180 := n2_; clear n0_ n1_ n2_; clear ho hb hg hat) | ((with_reducible refine gate_callee (f := 12) rfl ?_); refine goesL_ (some 79) rfl rfl Try.func12 (by kernel_rfl) rfl #[.int .u64 (IntKind.u64.wrap (x5_1 + 1))] rfl (by (try simp only [List.map_toArray, List.map_cons, List.map_nil]); first | done | rfl | (simp only [List.length_drop, List.length_take]; rfl)) ?_; (with_reducible refine (place_Nodes.calls kj7 (IntKind.u64.wrap (x5_1 + 1)) t181 true _ A21.out).mono ?_); rintro e w' ⟨rfl, ⟨nd, rfl⟩⟩; refine ⟨_, rfl, ?_⟩))
                            go_ret
                            exact ⟨by first | rfl | (simp [errW_none, errW_some] <;> rfl) | (simp [*, errW_none, errW_some] <;> rfl), by repeat (first | (with_reducible first | exact HB.out | apply below_alloc | apply pw_below_drewN | apply below_drew1 | refine below_set ?_ GE172.out) | exact HB.out)⟩
                        · replace c22 := Bool.eq_false_iff.mpr c22
                          subst c22
                          have H1 : (some false) = some r := by rw [if_neg (show ¬ (false = true) by decide)] at H; exact H
                          clear H
                          have H := H1
                          clear H1
                          obtain rfl := Option.some.inj H
                          go_wp2_with (first | ((with_reducible refine gate_builtin (b := .append) (xs := #[.tmp 71, .tmp 74]) rfl ?_); at_builtin; refine Kd.R_append (Kd.int .u64) (w0 := w) w.heap.size rfl (.tmp 71) (.tmp 74) 30 22 (.int .u64 0) 8 rfl Try.underlying30 info22 rfl (by decide) (by omega) u4 x4_2 (IntKind.u64.wrap ((IntKind.u64.wrap (x3_2 + 1)) - 1)) [.int .u64 (IntKind.u64.wrap ((IntKind.u64.wrap (x3_2 + 1)) - 1))] (fun _ => True) (fun _ => False) rfl rfl ?aP (fun _ hk => hk.elim) ?aF ?aO ?aB ?aS ?aL ?_; (case aP => exact rfl); (case aB => exact (by repeat (first | (with_reducible first | exact HB.out | apply below_alloc | apply pw_below_drewN | apply below_drew1 | refine below_set ?_ GE172.out) | exact HB.out))); (case aF => exact (fun _ _ => trivial)); (case aO => exact (by (with_reducible repeat (first | apply Kd.R_alloc | apply Kd.R_drewN | apply Kd.R_drew)); exact HO_4.out)); (case aS => exact (below_size (by repeat (first | (with_reducible first | exact HB.out | apply below_alloc | apply pw_below_drewN | apply below_drew1 | refine below_set ?_ GE172.out) | exact HB.out)))); (case aL => have := LMc20.out; omega); intro v179 w36 ho hb hg hat; rw [← Ny178.out] at ho; have n0_ := Aside0.mk (blk_grown (g := gb172) (o := .cells #[.int .i64 t169, .int .u64 t170] 24 (0, 0)) (by (with_reducible repeat (first | refine blk_drewN ?_ _ | refine blk_drew ?_ | refine blk_alloc ?_ _)); exact BK172.out) hg (Kd.R_ne HO_4.out BK172.out (by decide))); have n1_ := Aside0.mk (hb); have n2_ := Aside0.mk (ho); clear BK172; clear HB; clear HO_4; have BK172 := n0_; have HB := n1_; have HO180 := n2_; clear n0_ n1_ n2_; clear ho hb hg hat) | ((with_reducible refine gate_callee (f := 12) rfl ?_); refine goesL_ (some 79) rfl rfl Try.func12 (by kernel_rfl) rfl #[.int .u64 (IntKind.u64.wrap (x5_1 + 1))] rfl (by (try simp only [List.map_toArray, List.map_cons, List.map_nil]); first | done | rfl | (simp only [List.length_drop, List.length_take]; rfl)) ?_; (with_reducible refine (place_Nodes.calls kj7 (IntKind.u64.wrap (x5_1 + 1)) t181 false _ A21.out).mono ?_); rintro e w' ⟨rfl, ⟨nd, rfl⟩⟩; refine ⟨_, rfl, ?_⟩))
                          go_ret
                          exact ⟨by first | rfl | (simp [errW_none, errW_some] <;> rfl) | (simp [*, errW_none, errW_some] <;> rfl), by repeat (first | (with_reducible first | exact HB.out | apply below_alloc | apply pw_below_drewN | apply below_drew1 | refine below_set ?_ GE172.out) | exact HB.out)⟩
                      · rw [if_neg c20] at H
                        exact absurd H (by simp)
                    · rw [if_neg c19] at H
                      have c19b0 : ((Int.tmod x7_2 2) == 0) = false := beq_eq_false_iff_ne.mpr c19
                      have c19b1 : ((Int.tmod x7_2 2) != 0) = true := bne_iff_ne.mpr c19
                      obtain ⟨ji37, hji37⟩ : ∃ j_ : Int, (wrap64 ((x4_2.length : Int) - 1)) = j_ := ⟨_, rfl⟩
                      replace H : (if 0 ≤ (ji37) then (if (ji37) ≤ (x4_2.length : Int) then (massiflaw03_PlaceRow.l1 kj7 (wrap64 (Int.tmod (IntKind.u64.wrap (a0)) 260)) (IntKind.u64.wrap (x3_2 + 1)) (x4_2.take ((ji37) : Int).toNat) x5_1 (wrap64 (x6_2 + 1)) (IntKind.u64.wrap (Int.tdiv x7_2 2))) else (none)) else (none)) = some r := by first | (rw [hji37] at H; exact H) | (simp only [hji37] at H ⊢; exact H)
                      have hji37w : (IntKind.i64.wrap ((x4_2.length : Int) - 1)) = ji37 := (i64_w _).trans hji37
                      by_cases c38 : 0 ≤ (ji37)
                      · rw [if_pos c38] at H
                        have c38b0 := eq_true c38
                        have c38b1 : decide (0 ≤ (ji37)) = true := decide_eq_true c38
                        clear c38
                        by_cases c39 : (ji37) ≤ (x4_2.length : Int)
                        · rw [if_pos c39] at H
                          have c39b0 := eq_true c39
                          have c39b1 : decide ((ji37) ≤ (x4_2.length : Int)) = true := decide_eq_true c39
                          clear c39
                          obtain ⟨y175, hy175⟩ : ∃ y_ : List Int, y_ = (x4_2.take ((ji37) : Int).toNat) := ⟨_, rfl⟩
                          replace H : (massiflaw03_PlaceRow.l1 kj7 (wrap64 (Int.tmod (IntKind.u64.wrap (a0)) 260)) (IntKind.u64.wrap (x3_2 + 1)) y175 x5_1 (wrap64 (x6_2 + 1)) (IntKind.u64.wrap (Int.tdiv x7_2 2))) = some r := by first | (rw [hy175]; with_reducible exact H) | (have H2_ := (Option.bind_some _ _).symm.trans H; rw [hy175]; with_reducible exact H2_) | (have H2_ := (Option.bind_some _ _).symm.trans H; with_reducible exact H2_) | with_reducible exact H | (rw [hy175]; exact H) | exact H
                          have Ny175 := Aside0.mk hy175
                          clear hy175
                          have H' := Aside0.mk H
                          clear H
                          obtain ⟨Ao40, co40, eo40⟩ := Kd.R_slice HO_4.out
                          subst eo40
                          have q41 : ((ji37) : Int) ≤ ((x4_2.length : Int) : Int) := of_decide_eq_true (by first | (with_reducible assumption) | assumption)
                          obtain ⟨i041, hi041, _, hsz41, _⟩ := info_parts info22
                          have hcut41 := cut_to (P := Try.prog) 30 22 .i64 Try.underlying30 hi041 Ao40 x4_2.length co40 (ji37) (of_decide_eq_true (by first | (with_reducible assumption) | assumption)) q41 (Kd.R_reads' HO_4.out).2.1
                          have hr41 := Kd.R_take (m := ((ji37) : Int).toNat) HO_4.out (by omega)
                          have hy41 : y175.length = ((ji37) : Int).toNat := (by rw [Ny175.out, List.length_take]; omega)
                          rw [← Ny175.out] at hr41
                          rw [← hy41] at hr41 hcut41
                          clear hy41 hi041 hsz41 HO_4
                          have HO177 := Aside0.mk hr41
                          clear hr41
                          replace q41 := eq_true q41
                          go_wp2
                          go_roundg kj7
                          case measure => have := HK1.out; have := HK2.out; have := HJ7.out; omega
                          case rel => exact ⟨(IntKind.u64.wrap (x3_2 + 1)), (y175), (wrap64 (x6_2 + 1)), (IntKind.u64.wrap (Int.tdiv x7_2 2)), (by first | rfl | (simp; done) | (simp [*]; done)), (by first | rfl | (simp; done) | (simp [*]; done)), (by first | rfl | (simp; done) | (simp [*]; done)), H', ⟨by have := HK1.out; have := HK2.out; have := HJ7.out; omega⟩, ⟨by (with_reducible repeat (first | apply Kd.R_alloc | apply Kd.R_drewN | apply Kd.R_drew)); exact HO177.out⟩, ⟨by repeat (first | (with_reducible first | exact HB.out | apply below_alloc | apply pw_below_drewN | apply below_drew1 | refine below_set ?_ GE172.out) | exact HB.out)⟩⟩
                        · rw [if_neg c39] at H
                          exact absurd H (by simp)
                      · rw [if_neg c38] at H
                        exact absurd H (by simp)
        · rw [if_neg c5] at H
          have c5b0 : decide (x5_1 < (IntKind.u64.wrap ((wrap64 (Int.tmod (IntKind.u64.wrap (a0)) 260))))) = false := decide_eq_false c5
          clear c5
          obtain rfl := Option.some.inj H
          go_wp2
          go_ret
          exact ⟨by first | rfl | (simp [errW_none, errW_some] <;> rfl) | (simp [*, errW_none, errW_some] <;> rfl), by repeat (first | (with_reducible first | exact HB.out | apply below_alloc | apply pw_below_drewN | apply below_drew1) | exact HB.out)⟩
  · replace c3 := Bool.eq_false_iff.mpr c3
    subst c3
    have H1 : (some false) = some r := by rw [if_neg (show ¬ (false = true) by decide)] at H; exact H
    clear H
    have H := H1
    clear H1
    obtain rfl := Option.some.inj H
    go_enter Try.func9, Try.ntmps9
    go_wp2_with (first | ((with_reducible refine gate_callee (f := 11) rfl ?_); refine goesL_ (some 14) rfl rfl Try.func11 (by kernel_rfl) rfl #[] rfl (by (try simp only [List.map_toArray, List.map_cons, List.map_nil]); first | done | rfl | (simp only [List.length_drop, List.length_take]; rfl)) ?_; (with_reducible refine (massiflaw03_alive.calls k  false _ A2.out).mono ?_); rintro e w42 ⟨rfl, hb⟩; refine ⟨_, rfl, ?_⟩; have n0_ := Aside0.mk (below_step (by repeat (first | (with_reducible first | exact HB.out | apply below_alloc | apply pw_below_drewN | apply below_drew1) | exact HB.out)) hb); clear HB; have HB := n0_; clear n0_; (try clear hb); (try clear hb2); (try clear hk); (try clear hi)))
    go_ret
    exact ⟨by first | rfl | (simp [errW_none, errW_some] <;> rfl) | (simp [*, errW_none, errW_some] <;> rfl), by repeat (first | (with_reducible first | exact HB.out | apply below_alloc | apply pw_below_drewN | apply below_drew1) | exact HB.out)⟩

/-- THE ONE PURE STATEMENT of massiflaw03_PlaceRow: yours. -/
def massiflaw03_PlaceRow.Pure : Prop := ∀ (a0 : Int), (Lit.int .i64 a0).wf = true → ∃ k, massiflaw03_PlaceRow.f k a0 = some true
theorem massiflaw03_PlaceRow.walk (P : massiflaw03_PlaceRow.Pure) (a0 : Int) (w : World) (w0 : (Lit.int .i64 a0).wf = true) :
    Calls Try.prog 9 #[.int .i64 a0] w fun e w' => e = .returned (.bool true) ∧ Below w.heap.size w w' := by
  obtain ⟨k, h⟩ := P a0 w0
  refine (massiflaw03_PlaceRow.calls k a0 true w h).mono ?_
  rintro e w' ⟨rfl, hd⟩
  exact ⟨rfl, hd⟩

end Go.Proofs.Ytlbehenaoiddkaa.PPlaceRow
