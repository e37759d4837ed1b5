/- Written by a program of this session over the translation: functions, their walks, rows. No condition beyond those that each theorem names. -/
import Derived.Test.YtkefjoljokfieaaPCoverRestsx0
import Derived.Test.YtkefjoljokfieaaPCoverRestsx4
namespace Go.Proofs.Ytkefjoljokfieaa.PCoverRests
open Go.RowKit Go.Proofs.YtkefjoljokfieaaW.PrintWords Go.Proofs.YtkefjoljokfieaaW.PrintLast Go.Proofs.YtkefjoljokfieaaW.PrintMore
attribute [local go_sem] max2_int min2_int max_two min_two max_three min_three max_four min_four   -- for this text's walks alone
set_option linter.unusedVariables false
set_option linter.unusedSimpArgs false

/-! ### massifref04_without: function 23 -/
mutual
def massifref04_without.l0 : Nat → List Int → Int → Int → List Int → Int → Int → Int → Option ((List (S42)))
  | 0, _, _, _, _, _, _, _ => none
  | k + 1, x1, x5, x6, x7, x8, x193000, x193001 => if x8 < (x1.length : Int) then (if 0 ≤ x8 then (if (rd x1 x8) ≥ x5 then (if (rd x1 x8) < x6 then (if x7.length < 17592186044416 then (massifref04_without.l0 k x1 x5 x6 (x7 ++ [rd x1 x8]) (wrap64 (x8 + 1)) x193000 x193001) else (none)) else (massifref04_without.l0 k x1 x5 x6 x7 (wrap64 (x8 + 1)) x193000 x193001)) else (massifref04_without.l0 k x1 x5 x6 x7 (wrap64 (x8 + 1)) x193000 x193001)) else (none)) else (if (x7.length : Int) = 0 then (some (([(⟨x193000, x193001⟩ : S42)] : List (S42)))) else (if x193000 = 0 then (some ([] : List (S42))) else ((massifref04_without.f k (wrap64 (x193000 - 1)) (IntKind.u64.wrap (2 * x193001)) x7).bind fun t204 => ((massifref04_without.f k (wrap64 (x193000 - 1)) (IntKind.u64.wrap ((IntKind.u64.wrap (2 * x193001)) + 1)) x7).bind fun t207 => (if t204.length + t207.length < 8796093022208 then (some (t204 ++ t207)) else (none))))))
def massifref04_without.f : Nat → Int → Int → List Int → Option ((List (S42)))
  | 0, _, _, _ => none
  | k + 1, a0_0, a0_1, l1 => (massifref04_span.f k a0_0 a0_1).bind fun bt193 => (massifref04_without.l0 k l1 bt193.1 bt193.2 ([] : List Int) 0 a0_0 a0_1)
end
theorem massifref04_without.mono_l : ∀ k, (∀ y0 y1 y2, LeO (massifref04_without.f k y0 y1 y2) (massifref04_without.f (k + 1) y0 y1 y2)) ∧ (∀ y0 y1 y2 y3 y4 y5 y6, LeO (massifref04_without.l0 k y0 y1 y2 y3 y4 y5 y6) (massifref04_without.l0 (k + 1) y0 y1 y2 y3 y4 y5 y6))
  | 0 => ⟨fun _ _ _ r h => by simp [massifref04_without.f] at h, fun _ _ _ _ _ _ _ r h => by simp [massifref04_without.l0] at h⟩
  | k + 1 => by
    obtain ⟨ih0, ih1⟩ := massifref04_without.mono_l k
    refine ⟨?_, ?_⟩
    · intro y0 y1 y2
      unfold massifref04_without.f
      repeat' first
      | (with_reducible exact ih0 _ _ _)
      | (with_reducible exact ih1 _ _ _ _ _ _ _)
      | (with_reducible exact massifref04_span.mono _ _ _)
      | (with_reducible exact LeO.refl _)
      | (with_reducible exact LeO.none _)
      | (with_reducible refine LeO.ite ?_ ?_)
      | (with_reducible refine LeO.bind ?_ (fun _ => ?_))
      | exact ih0 _ _ _
      | exact ih1 _ _ _ _ _ _ _
      | exact massifref04_span.mono _ _ _
      | exact LeO.none _
      | refine LeO.ite ?_ ?_
      | refine LeO.bind ?_ (fun _ => ?_)
    · intro y0 y1 y2 y3 y4 y5 y6
      unfold massifref04_without.l0
      repeat' first
      | (with_reducible exact ih0 _ _ _)
      | (with_reducible exact ih1 _ _ _ _ _ _ _)
      | (with_reducible exact massifref04_span.mono _ _ _)
      | (with_reducible exact LeO.refl _)
      | (with_reducible exact LeO.none _)
      | (with_reducible refine LeO.ite ?_ ?_)
      | (with_reducible refine LeO.bind ?_ (fun _ => ?_))
      | exact ih0 _ _ _
      | exact ih1 _ _ _ _ _ _ _
      | exact massifref04_span.mono _ _ _
      | exact LeO.none _
      | refine LeO.ite ?_ ?_
      | refine LeO.bind ?_ (fun _ => ?_)
theorem massifref04_without.mono : ∀ a0 a1 a2 k, LeO (massifref04_without.f k a0 a1 a2) (massifref04_without.f (k + 1) a0 a1 a2) := by
  intro a0 a1 a2 k
  obtain ⟨ih0, ih1⟩ := massifref04_without.mono_l k
  exact ih0 a0 a1 a2
set_option maxHeartbeats 8000000 in
set_option maxRecDepth 100000 in
theorem massifref04_without.calls (k : Nat) : ∀ (a0_0 : Int) (a0_1 : Int) (A1 : Option Addr) (c1 : Nat) (l1 : List Int) (r : List (S42)) (w : World) (hr1 : Kd.C (Kd.int .u64) w A1 l1.length l1) (hc1 : l1.length ≤ c1) (h : massifref04_without.f k a0_0 a0_1 l1 = some r),
    Calls Try.prog 23 #[.agg #[.int .i64 a0_0, .int .u64 a0_1], .slice A1 l1.length c1] w fun e w' => ∃ v0_ : Value, e = .returned (v0_) ∧ Kd.R k42 42 w' w.heap.size (fun _ => True) v0_ r ∧ Below w.heap.size w w' := by
  induction k using Nat.strongRecOn with
  | _ k ih =>
  intro a0_0 a0_1 A1 c1 l1 r w hr1 hc1 h
  cases k with
  | zero => exact absurd h (by simp [massifref04_without.f])
  | succ k =>
  simp only [massifref04_without.f] at h
  have hu42 := Try.underlying42
  have HR1 := Aside0.mk hr1
  have HC1 := Aside0.mk hc1
  clear hr1 hc1
  have HB := Aside0.mk (Below.refl w.heap.size w)
  have H : ((massifref04_span.f k a0_0 a0_1).bind fun bt193 => (massifref04_without.l0 k l1 bt193.1 bt193.2 ([] : List Int) 0 a0_0 a0_1)) = some r := h
  clear h
  replace H := Option.bind_eq_some_iff.mp H
  obtain ⟨⟨t193, t194⟩, A30, H⟩ := H
  replace H : (massifref04_without.l0 k l1 t193 t194 ([] : List Int) 0 a0_0 a0_1) = some r := H
  have A3 := Aside0.mk A30
  clear A30
  have H' := Aside0.mk H
  clear H
  go_enter Try.func23, Try.ntmps23
  go_wp2_with (first | ((with_reducible refine gate_dst (N := 2) rfl ?_); refine box_event ?hg (N := 2) ?hd (cs := #[.int .i64 a0_0, .int .u64 a0_1]) (t := 42) ?hr ?_; (case hd => rfl); (case hg => rfl); (case hr => first | (go_simp; done) | (go_simp; rfl)); intro gb192 hg w4 hbox hb; have n0_ := Aside0.mk (below_step (by repeat (first | (with_reducible first | exact HB.out | apply below_alloc | apply pw_below_drewN | apply below_drew1) | exact HB.out)) hb); have n1_ := Aside0.mk (hbox); have n2_ := Aside0.mk ((by rw [hg]; exact (below_size (by repeat (first | (with_reducible first | exact HB.out | apply below_alloc | apply pw_below_drewN | apply below_drew1) | exact HB.out))) : w.heap.size ≤ gb192)); have n3_ := Aside0.mk ((by rw [hg]; exact (below_size (by repeat (first | (with_reducible first | exact HB.out | apply below_alloc | apply pw_below_drewN | apply below_drew1) | exact HB.out))) : w.heap.size ≤ gb192)); clear HB; have HB := n0_; have BK192 := n1_; have GW192 := n2_; have GE192 := n3_; clear n0_ n1_ n2_ n3_; clear hb hbox hg; have hcz5_0 : w4.cell? ⟨gb192, 0, none⟩ = some (.int .i64 a0_0) := (blk_cell BK192.out 0).trans rfl; have hcz5_1 : w4.cell? ⟨gb192, 1, none⟩ = some (.int .u64 a0_1) := (blk_cell BK192.out 1).trans rfl; have hfz5_0 := blk_frozen BK192.out 0; have hfz5_1 := blk_frozen BK192.out 1) | ((with_reducible refine gate_callee (f := 30) rfl ?_); refine goesL_ (some 13) rfl rfl Try.func30 (by kernel_rfl) rfl #[.agg #[.int .i64 a0_0, .int .u64 a0_1]] rfl (by (try simp only [List.map_toArray, List.map_cons, List.map_nil]); first | done | rfl | (simp only [List.length_drop, List.length_take]; rfl)) ?_; (with_reducible refine (massifref04_span.calls k a0_0 a0_1 t193 t194 _ A3.out).mono ?_); rintro e w6 ⟨rfl, hb⟩; refine ⟨_, rfl, ?_⟩; have n0_ := Aside0.mk (blk_below (g := gb192) (o := .cells #[.int .i64 a0_0, .int .u64 a0_1] 42 (0, 0)) (by (with_reducible repeat (first | refine blk_drewN ?_ _ | refine blk_drew ?_ | refine blk_alloc ?_ _)); exact BK192.out) hb); have n1_ := Aside0.mk (below_step (by repeat (first | (with_reducible first | exact HB.out | apply below_alloc | apply pw_below_drewN | apply below_drew1 | refine below_set ?_ GE192.out) | exact HB.out)) hb); clear BK192; clear HB; have BK192 := n0_; have HB := n1_; clear n0_ n1_; (try clear hb); (try clear hb2); (try clear hk); (try clear hi)))
  go_loopg [7, 8] k (fun kq v7 v8 w' => ∃ (x7_1 : List Int) (x8_1 : Int), v8 = .int .i64 x8_1 ∧ Aside0 (massifref04_without.l0 kq l1 t193 t194 x7_1 x8_1 a0_0 a0_1 = some r) ∧ Aside0 (kq ≤ k) ∧ Aside0 (Kd.R (Kd.int .u64) 22 w' w.heap.size (fun _ => True) v7 x7_1) ∧ Aside0 (w'.heap[gb192]? = some (.cells #[.int .i64 a0_0, .int .u64 a0_1] 42 (0, 0))) ∧ Aside0 (Below w.heap.size w w'))
  case atStart => exact ⟨(([] : List Int)), (0), (by first | rfl | (simp; done) | (simp [*]; done)), H', ⟨Nat.le_refl _⟩, ⟨by first | exact Kd.R_nil _ _ _ _ _ | exact Kd.N_nil _ _ _ _ _ | exact Kd.V_nil _ _ _ _ _ | exact Kd.Q_nil _ _ _ _ _ | exact Kd.S_nil _ _ _ _ _⟩, ⟨by (with_reducible repeat (first | refine blk_drewN ?_ _ | refine blk_drew ?_ | refine blk_alloc ?_ _)); exact BK192.out⟩, ⟨by repeat (first | (with_reducible first | exact HB.out | apply below_alloc | apply pw_below_drewN | apply below_drew1 | refine below_set ?_ GE192.out) | exact HB.out)⟩⟩
  case round =>
    clear H'
    try clear c1
    try clear c2
    try clear p2
    try clear c3
    try clear hcz5_0
    try clear hcz5_1
    try clear hfz5_0
    try clear hfz5_1
    obtain ⟨x7_1, x8_1, rfl, HA, HK1, HO_7, BK192, HB⟩ := hrel
    cases gk with
    | zero => exact absurd HA.out (by simp [massifref04_without.l0])
    | succ k1 =>
      have H := HA.out
      clear HA
      simp only [massifref04_without.l0] at H
      by_cases c7 : x8_1 < (l1.length : Int)
      · rw [if_pos c7] at H
        have c7b0 : decide (x8_1 < (l1.length : Int)) = true := decide_eq_true c7
        clear c7
        by_cases c8 : 0 ≤ x8_1
        · rw [if_pos c8] at H
          have c8b0 : decide (0 ≤ x8_1) = true := decide_eq_true c8
          clear c8
          by_cases c9 : (rd l1 x8_1) ≥ t193
          · rw [if_pos c9] at H
            have c9b0 : decide (t193 ≤ (rd l1 x8_1)) = true := decide_eq_true c9
            clear c9
            by_cases c10 : (rd l1 x8_1) < t194
            · rw [if_pos c10] at H
              have c10b0 : decide ((rd l1 x8_1) < t194) = true := decide_eq_true c10
              clear c10
              by_cases c11 : x7_1.length < 17592186044416
              · rw [if_pos c11] at H
                have LMc11 := Aside0.mk c11
                clear c11
                obtain ⟨y198, hy198⟩ : ∃ y_ : List Int, y_ = (x7_1 ++ [rd l1 x8_1]) := ⟨_, rfl⟩
                replace H : (massifref04_without.l0 k1 l1 t193 t194 y198 (wrap64 (x8_1 + 1)) a0_0 a0_1) = some r := by first | (rw [hy198]; with_reducible exact H) | (have H2_ := (Option.bind_some _ _).symm.trans H; rw [hy198]; with_reducible exact H2_) | (have H2_ := (Option.bind_some _ _).symm.trans H; with_reducible exact H2_) | with_reducible exact H | (rw [hy198]; exact H) | exact H
                have Ny198 := Aside0.mk hy198
                clear hy198
                have H' := Aside0.mk H
                clear H
                have p195 : 0 ≤ (x8_1 : Int) := of_decide_eq_true (by first | (with_reducible assumption) | assumption)
                have q195 : x8_1 < (l1.length : Int) := of_decide_eq_true (by first | (with_reducible assumption) | assumption)
                obtain ⟨ad195, e195, hx195_0⟩ := Kd.at_int HR1.out x8_1 p195 q195
                cases e195
                replace hx195_0 := (HB.out.cell (World.block_lt_of_cell? w _ hx195_0)).trans hx195_0
                replace p195 := eq_true p195
                replace q195 := eq_true q195
                have p196 : 0 ≤ (x8_1 : Int) := of_decide_eq_true (by first | (with_reducible assumption) | assumption)
                have q196 : x8_1 < (l1.length : Int) := of_decide_eq_true (by first | (with_reducible assumption) | assumption)
                obtain ⟨ad196, e196, hx196_0⟩ := Kd.at_int HR1.out x8_1 p196 q196
                obtain rfl : ad195 = ad196 := (by injection e196)
                replace hx196_0 := (HB.out.cell (World.block_lt_of_cell? w _ hx196_0)).trans hx196_0
                replace p196 := eq_true p196
                replace q196 := eq_true q196
                have p197 : 0 ≤ (x8_1 : Int) := of_decide_eq_true (by first | (with_reducible assumption) | assumption)
                have q197 : x8_1 < (l1.length : Int) := of_decide_eq_true (by first | (with_reducible assumption) | assumption)
                obtain ⟨ad197, e197, hx197_0⟩ := Kd.at_int HR1.out x8_1 p197 q197
                obtain rfl : ad195 = ad197 := (by injection e197)
                replace hx197_0 := (HB.out.cell (World.block_lt_of_cell? w _ hx197_0)).trans hx197_0
                replace p197 := eq_true p197
                replace q197 := eq_true q197
                go_wp2_with (first | ((with_reducible refine gate_builtin (b := .append) (xs := #[.tmp 36, .tmp 41]) rfl ?_); at_builtin; refine Kd.R_append (Kd.int .u64) (w0 := w) w.heap.size rfl (.tmp 36) (.tmp 41) 23 22 (.int .u64 0) 8 rfl Try.underlying23 info22 rfl (by decide) (by omega) u7 x7_1 (rd l1 x8_1) [.int .u64 (rd l1 x8_1)] (fun _ => True) (fun _ => False) rfl rfl ?aP (fun _ hk => hk.elim) ?aF ?aO ?aB ?aS ?aL ?_; (case aP => exact rfl); (case aB => exact (by repeat (first | (with_reducible first | exact HB.out | apply below_alloc | apply pw_below_drewN | apply below_drew1 | refine below_set ?_ GE192.out) | exact HB.out))); (case aF => exact (fun _ _ => trivial)); (case aO => exact (by (with_reducible repeat (first | apply Kd.R_alloc | apply Kd.R_drewN | apply Kd.R_drew)); exact HO_7.out)); (case aS => exact (below_size (by repeat (first | (with_reducible first | exact HB.out | apply below_alloc | apply pw_below_drewN | apply below_drew1 | refine below_set ?_ GE192.out) | exact HB.out)))); (case aL => have := LMc11.out; omega); intro v199 w12 ho hb hg hat; rw [← Ny198.out] at ho; have n0_ := Aside0.mk (blk_grown (g := gb192) (o := .cells #[.int .i64 a0_0, .int .u64 a0_1] 42 (0, 0)) (by (with_reducible repeat (first | refine blk_drewN ?_ _ | refine blk_drew ?_ | refine blk_alloc ?_ _)); exact BK192.out) hg (Kd.R_ne HO_7.out BK192.out (by decide))); have n1_ := Aside0.mk (hb); have n2_ := Aside0.mk (ho); clear BK192; clear HB; clear HO_7; have BK192 := n0_; have HB := n1_; have HO200 := n2_; clear n0_ n1_ n2_; clear ho hb hg hat))
                go_roundg k1
                case measure => have := HK1.out; omega
                case rel => exact ⟨(y198), (wrap64 (x8_1 + 1)), (by first | rfl | (simp; done) | (simp [*]; done)), H', ⟨by have := HK1.out; omega⟩, ⟨by (with_reducible repeat (first | apply Kd.R_alloc | apply Kd.R_drewN | apply Kd.R_drew)); exact HO200.out⟩, ⟨by (with_reducible repeat (first | refine blk_drewN ?_ _ | refine blk_drew ?_ | refine blk_alloc ?_ _)); exact BK192.out⟩, ⟨by repeat (first | (with_reducible first | exact HB.out | apply below_alloc | apply pw_below_drewN | apply below_drew1 | refine below_set ?_ GE192.out) | exact HB.out)⟩⟩
              · rw [if_neg c11] at H
                exact absurd H (by simp)
            · rw [if_neg c10] at H
              have c10b0 : decide ((rd l1 x8_1) < t194) = false := decide_eq_false c10
              clear c10
              have H' := Aside0.mk H
              clear H
              have p195 : 0 ≤ (x8_1 : Int) := of_decide_eq_true (by first | (with_reducible assumption) | assumption)
              have q195 : x8_1 < (l1.length : Int) := of_decide_eq_true (by first | (with_reducible assumption) | assumption)
              obtain ⟨ad195, e195, hx195_0⟩ := Kd.at_int HR1.out x8_1 p195 q195
              cases e195
              replace hx195_0 := (HB.out.cell (World.block_lt_of_cell? w _ hx195_0)).trans hx195_0
              replace p195 := eq_true p195
              replace q195 := eq_true q195
              have p196 : 0 ≤ (x8_1 : Int) := of_decide_eq_true (by first | (with_reducible assumption) | assumption)
              have q196 : x8_1 < (l1.length : Int) := of_decide_eq_true (by first | (with_reducible assumption) | assumption)
              obtain ⟨ad196, e196, hx196_0⟩ := Kd.at_int HR1.out x8_1 p196 q196
              obtain rfl : ad195 = ad196 := (by injection e196)
              replace hx196_0 := (HB.out.cell (World.block_lt_of_cell? w _ hx196_0)).trans hx196_0
              replace p196 := eq_true p196
              replace q196 := eq_true q196
              go_wp2
              go_roundg k1
              case measure => have := HK1.out; omega
              case rel => exact ⟨(x7_1), (wrap64 (x8_1 + 1)), (by first | rfl | (simp; done) | (simp [*]; done)), H', ⟨by have := HK1.out; omega⟩, ⟨by (with_reducible repeat (first | apply Kd.R_alloc | apply Kd.R_drewN | apply Kd.R_drew)); exact HO_7.out⟩, ⟨by (with_reducible repeat (first | refine blk_drewN ?_ _ | refine blk_drew ?_ | refine blk_alloc ?_ _)); exact BK192.out⟩, ⟨by repeat (first | (with_reducible first | exact HB.out | apply below_alloc | apply pw_below_drewN | apply below_drew1 | refine below_set ?_ GE192.out) | exact HB.out)⟩⟩
          · rw [if_neg c9] at H
            have c9b0 : decide (t193 ≤ (rd l1 x8_1)) = false := decide_eq_false c9
            clear c9
            have H' := Aside0.mk H
            clear H
            have p195 : 0 ≤ (x8_1 : Int) := of_decide_eq_true (by first | (with_reducible assumption) | assumption)
            have q195 : x8_1 < (l1.length : Int) := of_decide_eq_true (by first | (with_reducible assumption) | assumption)
            obtain ⟨ad195, e195, hx195_0⟩ := Kd.at_int HR1.out x8_1 p195 q195
            cases e195
            replace hx195_0 := (HB.out.cell (World.block_lt_of_cell? w _ hx195_0)).trans hx195_0
            replace p195 := eq_true p195
            replace q195 := eq_true q195
            go_wp2
            go_roundg k1
            case measure => have := HK1.out; omega
            case rel => exact ⟨(x7_1), (wrap64 (x8_1 + 1)), (by first | rfl | (simp; done) | (simp [*]; done)), H', ⟨by have := HK1.out; omega⟩, ⟨by (with_reducible repeat (first | apply Kd.R_alloc | apply Kd.R_drewN | apply Kd.R_drew)); exact HO_7.out⟩, ⟨by (with_reducible repeat (first | refine blk_drewN ?_ _ | refine blk_drew ?_ | refine blk_alloc ?_ _)); exact BK192.out⟩, ⟨by repeat (first | (with_reducible first | exact HB.out | apply below_alloc | apply pw_below_drewN | apply below_drew1 | refine below_set ?_ GE192.out) | exact HB.out)⟩⟩
        · rw [if_neg c8] at H
          exact absurd H (by simp)
      · rw [if_neg c7] at H
        have c7b0 : decide (x8_1 < (l1.length : Int)) = false := decide_eq_false c7
        clear c7
        by_cases c13 : (x7_1.length : Int) = 0
        · rw [if_pos c13] at H
          have c13b0 : ((x7_1.length : Int) == 0) = true := beq_iff_eq.mpr c13
          have c13b1 : ((x7_1.length : Int) != 0) = false := bne_eq_false_iff_eq.mpr c13
          clear c13
          obtain ⟨y201, hy201⟩ : ∃ y_ : List (S42), y_ = (([(⟨a0_0, a0_1⟩ : S42)] : List (S42))) := ⟨_, rfl⟩
          replace H : (some y201) = some r := by first | (rw [hy201]; with_reducible exact H) | (have H2_ := (Option.bind_some _ _).symm.trans H; rw [hy201]; with_reducible exact H2_) | (have H2_ := (Option.bind_some _ _).symm.trans H; with_reducible exact H2_) | with_reducible exact H | (rw [hy201]; exact H) | exact H
          have Ny201 := Aside0.mk hy201
          clear hy201
          obtain rfl := Option.some.inj H
          obtain ⟨Ao14, co14, eo14⟩ := Kd.R_slice HO_7.out
          subst eo14
          have hcz15_0 : wr.cell? ⟨gb192, 0, none⟩ = some (.int .i64 a0_0) := (blk_cell BK192.out 0).trans rfl
          have hcz15_1 : wr.cell? ⟨gb192, 1, none⟩ = some (.int .u64 a0_1) := (blk_cell BK192.out 1).trans rfl
          have hfz15_0 := blk_frozen BK192.out 0
          have hfz15_1 := blk_frozen BK192.out 1
          go_wp2_with (first | ((with_reducible refine gate_dst (N := 47) rfl ?_); refine Kd.R_lit k42 _ 42 ?hg (N := 47) ?hd (xs := ([(⟨a0_0, a0_1⟩ : S42)] : List (S42))) (inner := [.int .i64 a0_0, .int .u64 a0_1]) (ok := fun _ => True) (okp := fun _ => True) ?hr ?hp (fun _ hk => hk) trivial (Below.refl _ _) (Nat.le_refl _) (by simp) ?_; (case hd => rfl); (case hg => rfl); (case hr => first | (go_simp; done) | (go_simp; rfl)); (case hp => exact (Reps.c2 (show Kd.M k42 _ _ _ (⟨a0_0, a0_1⟩ : S42) [.int .i64 a0_0, .int .u64 a0_1] from (k42_mkM _ _ _ (⟨a0_0, a0_1⟩ : S42) )) (Reps.none _ _))); intro v202 w16 ho17 hb hg_ hnew_; clear hg_ hnew_; (first | rw [← Ny201.out] at ho17 | (simp only [Int.reduceToNat] at ho17; rw [← Ny201.out] at ho17)); have n0_ := Aside0.mk (Kd.R_below (by (with_reducible repeat (first | apply Kd.R_alloc | apply Kd.R_drewN | apply Kd.R_drew)); exact HO_7.out) hb); have n1_ := Aside0.mk (Kd.R_lower (Kd.R_newB ho17 (g := gb192) (o := .cells #[.int .i64 a0_0, .int .u64 a0_1] 42 (0, 0)) (by (with_reducible repeat (first | refine blk_drewN ?_ _ | refine blk_drew ?_ | refine blk_alloc ?_ _)); exact BK192.out)) (below_size (by repeat (first | (with_reducible first | exact HB.out | apply below_alloc | apply pw_below_drewN | apply below_drew1 | refine below_set ?_ GE192.out) | exact HB.out)))); have n2_ := Aside0.mk (blk_below (g := gb192) (o := .cells #[.int .i64 a0_0, .int .u64 a0_1] 42 (0, 0)) (by (with_reducible repeat (first | refine blk_drewN ?_ _ | refine blk_drew ?_ | refine blk_alloc ?_ _)); exact BK192.out) hb); have n3_ := Aside0.mk (below_step (by repeat (first | (with_reducible first | exact HB.out | apply below_alloc | apply pw_below_drewN | apply below_drew1 | refine below_set ?_ GE192.out) | exact HB.out)) hb); clear HO_7; clear BK192; clear HB; have HO_7 := n0_; have HO203 := n1_; have BK192 := n2_; have HB := n3_; clear n0_ n1_ n2_ n3_; clear hb ho17))
          go_ret
          exact ⟨_, by first | rfl | (simp [errW_none, errW_some] <;> rfl) | (simp [*, errW_none, errW_some] <;> rfl), by (with_reducible repeat (first | apply Kd.R_alloc | apply Kd.R_drewN | apply Kd.R_drew)); exact Kd.R_mono HO203.out (fun _ hk => trivial), by repeat (first | (with_reducible first | exact HB.out | apply below_alloc | apply pw_below_drewN | apply below_drew1 | refine below_set ?_ GE192.out) | exact HB.out)⟩
        · rw [if_neg c13] at H
          have c13b0 : ((x7_1.length : Int) == 0) = false := beq_eq_false_iff_ne.mpr c13
          have c13b1 : ((x7_1.length : Int) != 0) = true := bne_iff_ne.mpr c13
          have c13b2 : ¬ (x7_1 = []) := fun h_ => c13 (by rw [h_]; rfl)
          by_cases c18 : a0_0 = 0
          · rw [if_pos c18] at H
            have c18b0 : (a0_0 == 0) = true := beq_iff_eq.mpr c18
            have c18b1 : (a0_0 != 0) = false := bne_eq_false_iff_eq.mpr c18
            clear c18
            obtain rfl := Option.some.inj H
            obtain ⟨Ao19, co19, eo19⟩ := Kd.R_slice HO_7.out
            subst eo19
            have hcz20_0 : wr.cell? ⟨gb192, 0, none⟩ = some (.int .i64 a0_0) := (blk_cell BK192.out 0).trans rfl
            have hcz20_1 : wr.cell? ⟨gb192, 1, none⟩ = some (.int .u64 a0_1) := (blk_cell BK192.out 1).trans rfl
            have hfz20_0 := blk_frozen BK192.out 0
            have hfz20_1 := blk_frozen BK192.out 1
            go_wp2
            go_ret
            exact ⟨_, by first | rfl | (simp [errW_none, errW_some] <;> rfl) | (simp [*, errW_none, errW_some] <;> rfl), by first | exact Kd.R_nil _ _ _ _ _ | exact Kd.N_nil _ _ _ _ _ | exact Kd.V_nil _ _ _ _ _ | exact Kd.Q_nil _ _ _ _ _ | exact Kd.S_nil _ _ _ _ _, by repeat (first | (with_reducible first | exact HB.out | apply below_alloc | apply pw_below_drewN | apply below_drew1 | refine below_set ?_ GE192.out) | exact HB.out)⟩
          · rw [if_neg c18] at H
            have c18b0 : (a0_0 == 0) = false := beq_eq_false_iff_ne.mpr c18
            have c18b1 : (a0_0 != 0) = true := bne_iff_ne.mpr c18
            replace H := Option.bind_eq_some_iff.mp H
            obtain ⟨t204, A210, H⟩ := H
            replace H : ((massifref04_without.f k1 (wrap64 (a0_0 - 1)) (IntKind.u64.wrap ((IntKind.u64.wrap (2 * a0_1)) + 1)) x7_1).bind fun t207 => (if t204.length + t207.length < 8796093022208 then (some (t204 ++ t207)) else (none))) = some r := H
            have A21 := Aside0.mk A210
            clear A210
            replace H := Option.bind_eq_some_iff.mp H
            obtain ⟨t207, A220, H⟩ := H
            replace H : (if t204.length + t207.length < 8796093022208 then (some (t204 ++ t207)) else (none)) = some r := H
            have A22 := Aside0.mk A220
            clear A220
            by_cases c23 : t204.length + t207.length < 8796093022208
            · rw [if_pos c23] at H
              have LMc23 := Aside0.mk c23
              clear c23
              obtain ⟨y210, hy210⟩ : ∃ y_ : List (S42), y_ = (t204 ++ t207) := ⟨_, rfl⟩
              replace H : (some y210) = some r := by first | (rw [hy210]; with_reducible exact H) | (have H2_ := (Option.bind_some _ _).symm.trans H; rw [hy210]; with_reducible exact H2_) | (have H2_ := (Option.bind_some _ _).symm.trans H; with_reducible exact H2_) | with_reducible exact H | (rw [hy210]; exact H) | exact H
              have Ny210 := Aside0.mk hy210
              clear hy210
              obtain rfl := Option.some.inj H
              obtain ⟨Ao24, co24, eo24⟩ := Kd.R_slice HO_7.out
              subst eo24
              have hcz25_0 : wr.cell? ⟨gb192, 0, none⟩ = some (.int .i64 a0_0) := (blk_cell BK192.out 0).trans rfl
              have hcz25_1 : wr.cell? ⟨gb192, 1, none⟩ = some (.int .u64 a0_1) := (blk_cell BK192.out 1).trans rfl
              have hfz25_0 := blk_frozen BK192.out 0
              have hfz25_1 := blk_frozen BK192.out 1
              go_wp2_with (first | ((with_reducible refine gate_callee (f := 23) rfl ?_); refine goesL_ (some 59) rfl rfl Try.func23 (by kernel_rfl) rfl #[.agg #[.int .i64 (wrap64 (a0_0 - 1)), .int .u64 (IntKind.u64.wrap (2 * a0_1))], .slice Ao24 x7_1.length co24] rfl (by (try simp only [List.map_toArray, List.map_cons, List.map_nil]); first | done | rfl | (simp only [List.length_drop, List.length_take]; rfl)) ?_; (with_reducible refine (ih k1 (by have := HK1.out; omega) (wrap64 (a0_0 - 1)) (IntKind.u64.wrap (2 * a0_1)) _ _ x7_1 t204 _ ?side1 ?side2 A21.out).mono ?_); (case side1 => repeat (first | exact (Kd.R_reads' HO_7.out).2.2 | (with_reducible refine Kd.C_alloc ?_ _) | (with_reducible refine Kd.C_drewN ?_ _) | (with_reducible refine Kd.C_drew ?_))); (case side2 => exact (Kd.R_reads' HO_7.out).2.1); rintro e w26 ⟨v205, rfl, ho0, hb⟩; refine ⟨_, rfl, ?_⟩; have n0_ := Aside0.mk (Kd.R_below (by (with_reducible repeat (first | apply Kd.R_alloc | apply Kd.R_drewN | apply Kd.R_drew)); exact HO_7.out) hb); have n1_ := Aside0.mk (Kd.R_lower (Kd.R_newB ho0 (g := gb192) (o := .cells #[.int .i64 a0_0, .int .u64 a0_1] 42 (0, 0)) (by (with_reducible repeat (first | refine blk_drewN ?_ _ | refine blk_drew ?_ | refine blk_alloc ?_ _)); exact BK192.out)) (below_size (by repeat (first | (with_reducible first | exact HB.out | apply below_alloc | apply pw_below_drewN | apply below_drew1 | refine below_set ?_ GE192.out) | exact HB.out)))); have n2_ := Aside0.mk (blk_below (g := gb192) (o := .cells #[.int .i64 a0_0, .int .u64 a0_1] 42 (0, 0)) (by (with_reducible repeat (first | refine blk_drewN ?_ _ | refine blk_drew ?_ | refine blk_alloc ?_ _)); exact BK192.out) hb); have n3_ := Aside0.mk (below_step (by repeat (first | (with_reducible first | exact HB.out | apply below_alloc | apply pw_below_drewN | apply below_drew1 | refine below_set ?_ GE192.out) | exact HB.out)) hb); clear HO_7; clear BK192; clear HB; have HO_7 := n0_; have HO206 := n1_; have BK192 := n2_; have HB := n3_; clear n0_ n1_ n2_ n3_; (try clear hb); (try clear hb2); (try clear hk); (try clear hi); (try clear ho0); have hcz27_0 : w26.cell? ⟨gb192, 0, none⟩ = some (.int .i64 a0_0) := (blk_cell BK192.out 0).trans rfl; have hcz27_1 : w26.cell? ⟨gb192, 1, none⟩ = some (.int .u64 a0_1) := (blk_cell BK192.out 1).trans rfl; have hfz27_0 := blk_frozen BK192.out 0; have hfz27_1 := blk_frozen BK192.out 1) | ((with_reducible refine gate_callee (f := 23) rfl ?_); refine goesL_ (some 69) rfl rfl Try.func23 (by kernel_rfl) rfl #[.agg #[.int .i64 (wrap64 (a0_0 - 1)), .int .u64 (IntKind.u64.wrap ((IntKind.u64.wrap (2 * a0_1)) + 1))], .slice Ao24 x7_1.length co24] rfl (by (try simp only [List.map_toArray, List.map_cons, List.map_nil]); first | done | rfl | (simp only [List.length_drop, List.length_take]; rfl)) ?_; (with_reducible refine (ih k1 (by have := HK1.out; omega) (wrap64 (a0_0 - 1)) (IntKind.u64.wrap ((IntKind.u64.wrap (2 * a0_1)) + 1)) _ _ x7_1 t207 _ ?side1 ?side2 A22.out).mono ?_); (case side1 => repeat (first | exact (Kd.R_reads' HO_7.out).2.2 | (with_reducible refine Kd.C_alloc ?_ _) | (with_reducible refine Kd.C_drewN ?_ _) | (with_reducible refine Kd.C_drew ?_))); (case side2 => exact (Kd.R_reads' HO_7.out).2.1); rintro e w28 ⟨v208, rfl, ho0, hb⟩; refine ⟨_, rfl, ?_⟩; have n0_ := Aside0.mk (Kd.R_below (by (with_reducible repeat (first | apply Kd.R_alloc | apply Kd.R_drewN | apply Kd.R_drew)); exact HO_7.out) hb); have n1_ := Aside0.mk (Kd.R_elder' (by (with_reducible repeat (first | apply Kd.R_alloc | apply Kd.R_drewN | apply Kd.R_drew)); exact HO206.out) (Kd.R_base ho0) hb); have n2_ := Aside0.mk (Kd.R_lower (Kd.R_newB (Kd.R_new' ho0 (Kd.R_lt (by (with_reducible repeat (first | apply Kd.R_alloc | apply Kd.R_drewN | apply Kd.R_drew)); exact HO206.out))) (g := gb192) (o := .cells #[.int .i64 a0_0, .int .u64 a0_1] 42 (0, 0)) (by (with_reducible repeat (first | refine blk_drewN ?_ _ | refine blk_drew ?_ | refine blk_alloc ?_ _)); exact BK192.out)) (below_size (by repeat (first | (with_reducible first | exact HB.out | apply below_alloc | apply pw_below_drewN | apply below_drew1 | refine below_set ?_ GE192.out) | exact HB.out)))); have n3_ := Aside0.mk (blk_below (g := gb192) (o := .cells #[.int .i64 a0_0, .int .u64 a0_1] 42 (0, 0)) (by (with_reducible repeat (first | refine blk_drewN ?_ _ | refine blk_drew ?_ | refine blk_alloc ?_ _)); exact BK192.out) hb); have n4_ := Aside0.mk (below_step (by repeat (first | (with_reducible first | exact HB.out | apply below_alloc | apply pw_below_drewN | apply below_drew1 | refine below_set ?_ GE192.out) | exact HB.out)) hb); clear HO_7; clear HO206; clear BK192; clear HB; have HO_7 := n0_; have HO206 := n1_; have HO209 := n2_; have BK192 := n3_; have HB := n4_; clear n0_ n1_ n2_ n3_ n4_; (try clear hb); (try clear hb2); (try clear hk); (try clear hi); (try clear ho0); obtain ⟨Ao30, co30, eo30⟩ := Kd.R_slice HO209.out; subst eo30) | ((with_reducible refine gate_builtin (b := .append) (xs := #[.tmp 70, .tmp 71]) rfl ?_); at_builtin; refine Kd.R_append_rows k42 (w0 := w) w.heap.size rfl (.tmp 70) (.tmp 71) 26 42 (.agg #[(.int .i64 0), (.int .u64 0)]) 16 rfl Try.underlying26 info42 rfl (by decide) (by omega) v205 t204 t207 _ _ _ (fun k_ => some k_ ≠ (.slice Ao30 t207.length co30 : Value).ownBlock ∧ k_ ≠ gb192) (fun _ => False) rfl rfl ?aO ?aR (fun _ _ h => h) (fun _ h => h.elim) ?aF ?aB ?aS ?aL ?_; (case aR => repeat (first | exact (Kd.R_reads' HO209.out).2.2 | (with_reducible refine Kd.C_alloc ?_ _) | (with_reducible refine Kd.C_drewN ?_ _) | (with_reducible refine Kd.C_drew ?_))); (case aB => exact (by repeat (first | (with_reducible first | exact HB.out | apply below_alloc | apply pw_below_drewN | apply below_drew1 | refine below_set ?_ GE192.out) | exact HB.out))); (case aF => exact (fun k_ hk => ⟨Kd.fresh' (Kd.R_lt (by (with_reducible repeat (first | apply Kd.R_alloc | apply Kd.R_drewN | apply Kd.R_drew)); exact HO209.out)) k_ hk, Kd.freshB (g := gb192) (o := .cells #[.int .i64 a0_0, .int .u64 a0_1] 42 (0, 0)) (by (with_reducible repeat (first | refine blk_drewN ?_ _ | refine blk_drew ?_ | refine blk_alloc ?_ _)); exact BK192.out) k_ hk⟩)); (case aO => exact (by (with_reducible repeat (first | apply Kd.R_alloc | apply Kd.R_drewN | apply Kd.R_drew)); exact Kd.R_mono HO206.out (fun _ hk => ⟨hk.2, hk.1.2⟩))); (case aS => exact (below_size (by repeat (first | (with_reducible first | exact HB.out | apply below_alloc | apply pw_below_drewN | apply below_drew1 | refine below_set ?_ GE192.out) | exact HB.out)))); (case aL => have := LMc23.out; omega); intro v211 w29 ho hb hg hat; rw [← Ny210.out] at ho; have n0_ := Aside0.mk (Kd.R_over' (by (with_reducible repeat (first | apply Kd.R_alloc | apply Kd.R_drewN | apply Kd.R_drew)); exact HO_7.out) (Kd.R_typed (by (with_reducible repeat (first | apply Kd.R_alloc | apply Kd.R_drewN | apply Kd.R_drew)); exact HO206.out)) (by decide) hg); have n1_ := Aside0.mk (blk_grown (g := gb192) (o := .cells #[.int .i64 a0_0, .int .u64 a0_1] 42 (0, 0)) (by (with_reducible repeat (first | refine blk_drewN ?_ _ | refine blk_drew ?_ | refine blk_alloc ?_ _)); exact BK192.out) hg (Kd.R_away HO206.out (fun _ hk => hk.1.2))); have n2_ := Aside0.mk (Kd.R_after (ok := (fun k_ => k_ ≠ gb192)) (by (with_reducible repeat (first | apply Kd.R_alloc | apply Kd.R_drewN | apply Kd.R_drew)); exact Kd.R_mono HO209.out (fun _ hk => ⟨hk.2, hk.1.2⟩)) hg hat); have n3_ := Aside0.mk (hb); have n4_ := Aside0.mk (ho); clear HO_7; clear BK192; clear HO209; clear HB; clear HO206; have HO_7 := n0_; have BK192 := n1_; have HO209 := n2_; have HB := n3_; have HO212 := n4_; clear n0_ n1_ n2_ n3_ n4_; clear ho hb hg hat))
              go_ret
              exact ⟨_, by first | rfl | (simp [errW_none, errW_some] <;> rfl) | (simp [*, errW_none, errW_some] <;> rfl), by (with_reducible repeat (first | apply Kd.R_alloc | apply Kd.R_drewN | apply Kd.R_drew)); exact Kd.R_mono HO212.out (fun _ hk => trivial), by repeat (first | (with_reducible first | exact HB.out | apply below_alloc | apply pw_below_drewN | apply below_drew1 | refine below_set ?_ GE192.out) | exact HB.out)⟩
            · rw [if_neg c23] at H
              exact absurd H (by simp)

/-! ### massifref04_Rest: function 10 -/
def massifref04_Rest.l0 : Nat → List Int → List (S42) → List (S42) → Int → Option ((List (S42)) × Int)
  | 0, _, _, _, _ => none
  | k + 1, x1, x7, x8, x9 => if x9 < (x8.length : Int) then (if 0 ≤ x9 then ((massifref04_without.f k ((rd_T42 x8 x9).f0) ((rd_T42 x8 x9).f1) x1).bind fun t218 => (if x7.length + t218.length < 8796093022208 then (massifref04_Rest.l0 k x1 (x7 ++ t218) x8 (wrap64 (x9 + 1))) else (none))) else (none)) else (some (x7, 0))
def massifref04_Rest.f (k : Nat) (a0 : Int) (l1 : List Int) : Option ((List (S42)) × Int) := if a0 > 1099511627776 then (some (([] : List (S42)), 30)) else ((massifref04_Set.f k a0 l1).bind fun t213 => (if t213 = 0 then ((massifref04_mountains.f k a0).bind fun t214 => (massifref04_Rest.l0 k l1 ([] : List (S42)) t214 0)) else (some (([] : List (S42)), t213))))
theorem massifref04_Rest.mono_l : ∀ k, (∀ y0 y1 y2 y3, LeO (massifref04_Rest.l0 k y0 y1 y2 y3) (massifref04_Rest.l0 (k + 1) y0 y1 y2 y3))
  | 0 => fun _ _ _ _ r h => by simp [massifref04_Rest.l0] at h
  | k + 1 => by
    have ih0 := massifref04_Rest.mono_l k
    · intro y0 y1 y2 y3
      unfold massifref04_Rest.l0
      repeat' first
      | (with_reducible exact ih0 _ _ _ _)
      | (with_reducible exact massifref04_Set.mono _ _ _)
      | (with_reducible exact massifref04_mountains.mono _ _)
      | (with_reducible exact massifref04_without.mono _ _ _ _)
      | (with_reducible exact LeO.refl _)
      | (with_reducible exact LeO.none _)
      | (with_reducible refine LeO.ite ?_ ?_)
      | (with_reducible refine LeO.bind ?_ (fun _ => ?_))
      | exact ih0 _ _ _ _
      | exact massifref04_Set.mono _ _ _
      | exact massifref04_mountains.mono _ _
      | exact massifref04_without.mono _ _ _ _
      | exact LeO.none _
      | refine LeO.ite ?_ ?_
      | refine LeO.bind ?_ (fun _ => ?_)
theorem massifref04_Rest.mono : ∀ a0 a1 k, LeO (massifref04_Rest.f k a0 a1) (massifref04_Rest.f (k + 1) a0 a1) := by
  intro a0 a1 k
  have ih0 := massifref04_Rest.mono_l k
  unfold massifref04_Rest.f
  repeat' first
      | (with_reducible exact ih0 _ _ _ _)
      | (with_reducible exact massifref04_Set.mono _ _ _)
      | (with_reducible exact massifref04_mountains.mono _ _)
      | (with_reducible exact massifref04_without.mono _ _ _ _)
      | (with_reducible exact LeO.refl _)
      | (with_reducible exact LeO.none _)
      | (with_reducible refine LeO.ite ?_ ?_)
      | (with_reducible refine LeO.bind ?_ (fun _ => ?_))
      | exact ih0 _ _ _ _
      | exact massifref04_Set.mono _ _ _
      | exact massifref04_mountains.mono _ _
      | exact massifref04_without.mono _ _ _ _
      | exact LeO.none _
      | refine LeO.ite ?_ ?_
      | refine LeO.bind ?_ (fun _ => ?_)
set_option maxHeartbeats 8000000 in
set_option maxRecDepth 100000 in
theorem massifref04_Rest.calls (k : Nat) (a0 : Int) (A1 : Option Addr) (c1 : Nat) (l1 : List Int) (r1 : List (S42)) (r2 : Int) (w : World) (hr1 : Kd.C (Kd.int .u64) w A1 l1.length l1) (hc1 : l1.length ≤ c1) (h : massifref04_Rest.f k a0 l1 = some (r1, r2)) :
    Calls Try.prog 10 #[.int .u64 a0, .slice A1 l1.length c1] w fun e w' => ∃ v0_ : Value, e = .returned (.tuple #[v0_, .int .i64 r2]) ∧ Kd.R k42 42 w' w.heap.size (fun _ => True) v0_ r1 ∧ Below w.heap.size w w' := by
  have hu42 := Try.underlying42
  have HR1 := Aside0.mk hr1
  have HC1 := Aside0.mk hc1
  clear hr1 hc1
  have HB := Aside0.mk (Below.refl w.heap.size w)
  have H : (if a0 > 1099511627776 then (some (([] : List (S42)), 30)) else ((massifref04_Set.f k a0 l1).bind fun t213 => (if t213 = 0 then ((massifref04_mountains.f k a0).bind fun t214 => (massifref04_Rest.l0 k l1 ([] : List (S42)) t214 0)) else (some (([] : List (S42)), t213))))) = some (r1, r2) := h
  clear h
  by_cases c3 : a0 > 1099511627776
  · rw [if_pos c3] at H
    have c3b0 : decide (1099511627776 < a0) = true := decide_eq_true c3
    clear c3
    simp only [Option.some.injEq, Prod.mk.injEq] at H
    obtain ⟨rfl, rfl⟩ := H
    go_enter Try.func10, Try.ntmps10
    go_wp2
    go_ret2
    exact ⟨_, by first | rfl | (simp [errW_none, errW_some] <;> rfl) | (simp [*, errW_none, errW_some] <;> rfl), by first | exact Kd.R_nil _ _ _ _ _ | exact Kd.N_nil _ _ _ _ _ | exact Kd.V_nil _ _ _ _ _ | exact Kd.Q_nil _ _ _ _ _ | exact Kd.S_nil _ _ _ _ _, by repeat (first | (with_reducible first | exact HB.out | apply below_alloc | apply pw_below_drewN | apply below_drew1) | exact HB.out)⟩
  · rw [if_neg c3] at H
    have c3b0 : decide (1099511627776 < a0) = false := decide_eq_false c3
    clear c3
    replace H := Option.bind_eq_some_iff.mp H
    obtain ⟨t213, A40, H⟩ := H
    replace H : (if t213 = 0 then ((massifref04_mountains.f k a0).bind fun t214 => (massifref04_Rest.l0 k l1 ([] : List (S42)) t214 0)) else (some (([] : List (S42)), t213))) = some (r1, r2) := H
    have A4 := Aside0.mk A40
    clear A40
    by_cases c5 : t213 = 0
    · rw [if_pos c5] at H
      have c5b0 : (t213 == 0) = true := beq_iff_eq.mpr c5
      have c5b1 : (t213 != 0) = false := bne_eq_false_iff_eq.mpr c5
      clear c5
      replace H := Option.bind_eq_some_iff.mp H
      obtain ⟨t214, A60, H⟩ := H
      replace H : (massifref04_Rest.l0 k l1 ([] : List (S42)) t214 0) = some (r1, r2) := H
      have A6 := Aside0.mk A60
      clear A60
      have H' := Aside0.mk H
      clear H
      go_enter Try.func10, Try.ntmps10
      go_wp2_with (first | ((with_reducible refine gate_callee (f := 21) rfl ?_); refine goesL_ (some 14) rfl rfl Try.func21 (by kernel_rfl) rfl #[.int .u64 a0, .slice A1 l1.length c1] rfl (by (try simp only [List.map_toArray, List.map_cons, List.map_nil]); first | done | rfl | (simp only [List.length_drop, List.length_take]; rfl)) ?_; (with_reducible refine (massifref04_Set.calls k a0 _ _ l1 t213 _ ?side1 ?side2 A4.out).mono ?_); (case side1 => repeat (first | exact HR1.out | (with_reducible refine Kd.C_alloc ?_ _) | (with_reducible refine Kd.C_drewN ?_ _) | (with_reducible refine Kd.C_drew ?_))); (case side2 => exact HC1.out); rintro e w' ⟨rfl, ⟨nd, rfl⟩⟩; refine ⟨_, rfl, ?_⟩) | ((with_reducible refine gate_callee (f := 22) rfl ?_); refine goesL_ (some 19) rfl rfl Try.func22 (by kernel_rfl) rfl #[.int .u64 a0] rfl (by (try simp only [List.map_toArray, List.map_cons, List.map_nil]); first | done | rfl | (simp only [List.length_drop, List.length_take]; rfl)) ?_; (with_reducible refine (massifref04_mountains.calls k a0 t214 _ A6.out).mono ?_); rintro e w7 ⟨v215, rfl, ho0, hb⟩; refine ⟨_, rfl, ?_⟩; have n0_ := Aside0.mk (Kd.R_lower ho0 (below_size (by repeat (first | (with_reducible first | exact HB.out | apply below_alloc | apply pw_below_drewN | apply below_drew1) | exact HB.out)))); have n1_ := Aside0.mk (below_step (by repeat (first | (with_reducible first | exact HB.out | apply below_alloc | apply pw_below_drewN | apply below_drew1) | exact HB.out)) hb); clear HB; have HO216 := n0_; have HB := n1_; clear n0_ n1_; (try clear hb); (try clear hb2); (try clear hk); (try clear hi); (try clear ho0)))
      go_loopg [7, 9] k (fun kq v7 v9 w' => ∃ (x7_1 : List (S42)) (x9_1 : Int), v9 = .int .i64 x9_1 ∧ Aside0 (massifref04_Rest.l0 kq l1 x7_1 t214 x9_1 = some (r1, r2)) ∧ Aside0 (kq ≤ k) ∧ Aside0 (Kd.R k42 42 w' w.heap.size (fun k_ => some k_ ≠ (v215 : Value).ownBlock) v7 x7_1) ∧ Aside0 (Kd.R k42 42 w' w.heap.size (fun k_ => some k_ ≠ (v7 : Value).ownBlock) v215 t214) ∧ Aside0 (Below w.heap.size w w'))
      case atStart => exact ⟨(([] : List (S42))), (0), (by first | rfl | (simp; done) | (simp [*]; done)), H', ⟨Nat.le_refl _⟩, ⟨by first | exact Kd.R_nil _ _ _ _ _ | exact Kd.N_nil _ _ _ _ _ | exact Kd.V_nil _ _ _ _ _ | exact Kd.Q_nil _ _ _ _ _ | exact Kd.S_nil _ _ _ _ _⟩, ⟨by (with_reducible repeat (first | apply Kd.R_alloc | apply Kd.R_drewN | apply Kd.R_drew)); exact Kd.R_mono HO216.out (fun _ hk => (by simp [Value.ownBlock]))⟩, ⟨by repeat (first | (with_reducible first | exact HB.out | apply below_alloc | apply pw_below_drewN | apply below_drew1) | exact HB.out)⟩⟩
      case round =>
        clear H'
        try clear c1
        try clear c2
        try clear p2
        try clear c3
        try clear c3b0
        try clear c5
        try clear c5b0
        try clear c5b1
        obtain ⟨x7_1, x9_1, rfl, HA, HK1, HO_7, HO_8, HB⟩ := hrel
        cases gk with
        | zero => exact absurd HA.out (by simp [massifref04_Rest.l0])
        | succ k1 =>
          have H := HA.out
          clear HA
          simp only [massifref04_Rest.l0] at H
          by_cases c8 : x9_1 < (t214.length : Int)
          · rw [if_pos c8] at H
            have c8b0 : decide (x9_1 < (t214.length : Int)) = true := decide_eq_true c8
            clear c8
            by_cases c9 : 0 ≤ x9_1
            · rw [if_pos c9] at H
              have c9b0 : decide (0 ≤ x9_1) = true := decide_eq_true c9
              clear c9
              replace H := Option.bind_eq_some_iff.mp H
              obtain ⟨t218, A100, H⟩ := H
              replace H : (if x7_1.length + t218.length < 8796093022208 then (massifref04_Rest.l0 k1 l1 (x7_1 ++ t218) t214 (wrap64 (x9_1 + 1))) else (none)) = some (r1, r2) := H
              have A10 := Aside0.mk A100
              clear A100
              by_cases c11 : x7_1.length + t218.length < 8796093022208
              · rw [if_pos c11] at H
                have LMc11 := Aside0.mk c11
                clear c11
                obtain ⟨y221, hy221⟩ : ∃ y_ : List (S42), y_ = (x7_1 ++ t218) := ⟨_, rfl⟩
                replace H : (massifref04_Rest.l0 k1 l1 y221 t214 (wrap64 (x9_1 + 1))) = some (r1, r2) := by first | (rw [hy221]; with_reducible exact H) | (have H2_ := (Option.bind_some _ _).symm.trans H; rw [hy221]; with_reducible exact H2_) | (have H2_ := (Option.bind_some _ _).symm.trans H; with_reducible exact H2_) | with_reducible exact H | (rw [hy221]; exact H) | exact H
                have Ny221 := Aside0.mk hy221
                clear hy221
                have H' := Aside0.mk H
                clear H
                obtain ⟨Ao12, co12, eo12⟩ := Kd.R_slice HO_8.out
                subst eo12
                have p217 : 0 ≤ (x9_1 : Int) := of_decide_eq_true (by first | (with_reducible assumption) | assumption)
                have q217 : x9_1 < (t214.length : Int) := of_decide_eq_true (by first | (with_reducible assumption) | assumption)
                obtain ⟨ad217, e217, hx217_0, hx217_1⟩ := at_T42 (Kd.R_reads' HO_8.out).2.2 x9_1 p217 q217
                cases e217
                replace p217 := eq_true p217
                replace q217 := eq_true q217
                go_wp2_with (first | ((with_reducible refine gate_callee (f := 23) rfl ?_); refine goesL_ (some 32) rfl rfl Try.func23 (by kernel_rfl) rfl #[.agg #[.int .i64 ((rd_T42 t214 x9_1).f0), .int .u64 ((rd_T42 t214 x9_1).f1)], .slice A1 l1.length c1] rfl (by (try simp only [List.map_toArray, List.map_cons, List.map_nil]); first | done | rfl | (simp only [List.length_drop, List.length_take]; rfl)) ?_; (with_reducible refine (massifref04_without.calls k1 ((rd_T42 t214 x9_1).f0) ((rd_T42 t214 x9_1).f1) _ _ l1 t218 _ ?side1 ?side2 A10.out).mono ?_); (case side1 => repeat (first | exact (Kd.C_below HR1.out HB.out) | (with_reducible refine Kd.C_alloc ?_ _) | (with_reducible refine Kd.C_drewN ?_ _) | (with_reducible refine Kd.C_drew ?_))); (case side2 => exact HC1.out); rintro e w13 ⟨v219, rfl, ho0, hb⟩; refine ⟨_, rfl, ?_⟩; have n0_ := Aside0.mk (Kd.R_elder' (by (with_reducible repeat (first | apply Kd.R_alloc | apply Kd.R_drewN | apply Kd.R_drew)); exact HO_7.out) (Kd.R_base ho0) hb); have n1_ := Aside0.mk (Kd.R_elder' (by (with_reducible repeat (first | apply Kd.R_alloc | apply Kd.R_drewN | apply Kd.R_drew)); exact HO_8.out) (Kd.R_base ho0) hb); have n2_ := Aside0.mk (Kd.R_lower (Kd.R_new' (Kd.R_new' ho0 (Kd.R_lt (by (with_reducible repeat (first | apply Kd.R_alloc | apply Kd.R_drewN | apply Kd.R_drew)); exact HO_7.out))) (Kd.R_lt (by (with_reducible repeat (first | apply Kd.R_alloc | apply Kd.R_drewN | apply Kd.R_drew)); exact HO_8.out))) (below_size (by repeat (first | (with_reducible first | exact HB.out | apply below_alloc | apply pw_below_drewN | apply below_drew1) | exact HB.out)))); have n3_ := Aside0.mk (below_step (by repeat (first | (with_reducible first | exact HB.out | apply below_alloc | apply pw_below_drewN | apply below_drew1) | exact HB.out)) hb); clear HO_7; clear HO_8; clear HB; have HO_7 := n0_; have HO_8 := n1_; have HO220 := n2_; have HB := n3_; clear n0_ n1_ n2_ n3_; (try clear hb); (try clear hb2); (try clear hk); (try clear hi); (try clear ho0); obtain ⟨Ao15, co15, eo15⟩ := Kd.R_slice HO220.out; subst eo15) | ((with_reducible refine gate_builtin (b := .append) (xs := #[.tmp 26, .tmp 32]) rfl ?_); at_builtin; refine Kd.R_append_rows k42 (w0 := w) w.heap.size rfl (.tmp 26) (.tmp 32) 26 42 (.agg #[(.int .i64 0), (.int .u64 0)]) 16 rfl Try.underlying26 info42 rfl (by decide) (by omega) u7 x7_1 t218 _ _ _ (fun k_ => some k_ ≠ (.slice (some ad217) t214.length co12 : Value).ownBlock ∧ some k_ ≠ (.slice Ao15 t218.length co15 : Value).ownBlock) (fun _ => False) rfl rfl ?aO ?aR (fun _ _ h => h) (fun _ h => h.elim) ?aF ?aB ?aS ?aL ?_; (case aR => repeat (first | exact (Kd.R_reads' HO220.out).2.2 | (with_reducible refine Kd.C_alloc ?_ _) | (with_reducible refine Kd.C_drewN ?_ _) | (with_reducible refine Kd.C_drew ?_))); (case aB => exact (by repeat (first | (with_reducible first | exact HB.out | apply below_alloc | apply pw_below_drewN | apply below_drew1) | exact HB.out))); (case aF => exact (fun k_ hk => ⟨Kd.fresh' (Kd.R_lt (by (with_reducible repeat (first | apply Kd.R_alloc | apply Kd.R_drewN | apply Kd.R_drew)); exact HO_8.out)) k_ hk, Kd.fresh' (Kd.R_lt (by (with_reducible repeat (first | apply Kd.R_alloc | apply Kd.R_drewN | apply Kd.R_drew)); exact HO220.out)) k_ hk⟩)); (case aO => exact (by (with_reducible repeat (first | apply Kd.R_alloc | apply Kd.R_drewN | apply Kd.R_drew)); exact HO_7.out)); (case aS => exact (below_size (by repeat (first | (with_reducible first | exact HB.out | apply below_alloc | apply pw_below_drewN | apply below_drew1) | exact HB.out)))); (case aL => have := LMc11.out; omega); intro v222 w14 ho hb hg hat; rw [← Ny221.out] at ho; have n0_ := Aside0.mk (Kd.R_after (ok := (fun k_ => some k_ ≠ (.slice Ao15 t218.length co15 : Value).ownBlock)) (by (with_reducible repeat (first | apply Kd.R_alloc | apply Kd.R_drewN | apply Kd.R_drew)); exact Kd.R_mono HO_8.out (fun _ hk => ⟨hk.2, hk.1⟩)) hg hat); have n1_ := Aside0.mk (Kd.R_after (ok := (fun k_ => some k_ ≠ (.slice (some ad217) t214.length co12 : Value).ownBlock)) (by (with_reducible repeat (first | apply Kd.R_alloc | apply Kd.R_drewN | apply Kd.R_drew)); exact Kd.R_mono HO220.out (fun _ hk => ⟨hk.2, hk.1.2⟩)) hg hat); have n2_ := Aside0.mk (hb); have n3_ := Aside0.mk (ho); clear HO_8; clear HO220; clear HB; clear HO_7; have HO_8 := n0_; have HO220 := n1_; have HB := n2_; have HO223 := n3_; clear n0_ n1_ n2_ n3_; clear ho hb hg hat))
                go_roundg k1
                case measure => have := HK1.out; omega
                case rel => exact ⟨(y221), (wrap64 (x9_1 + 1)), (by first | rfl | (simp; done) | (simp [*]; done)), H', ⟨by have := HK1.out; omega⟩, ⟨by (with_reducible repeat (first | apply Kd.R_alloc | apply Kd.R_drewN | apply Kd.R_drew)); exact Kd.R_mono HO223.out (fun _ hk => hk.1)⟩, ⟨by (with_reducible repeat (first | apply Kd.R_alloc | apply Kd.R_drewN | apply Kd.R_drew)); exact Kd.R_mono HO_8.out (fun _ hk => hk.2)⟩, ⟨by repeat (first | (with_reducible first | exact HB.out | apply below_alloc | apply pw_below_drewN | apply below_drew1) | exact HB.out)⟩⟩
              · rw [if_neg c11] at H
                exact absurd H (by simp)
            · rw [if_neg c9] at H
              exact absurd H (by simp)
          · rw [if_neg c8] at H
            have c8b0 : decide (x9_1 < (t214.length : Int)) = false := decide_eq_false c8
            clear c8
            simp only [Option.some.injEq, Prod.mk.injEq] at H
            obtain ⟨rfl, rfl⟩ := H
            obtain ⟨Ao16, co16, eo16⟩ := Kd.R_slice HO_8.out
            subst eo16
            go_wp2
            go_ret2
            exact ⟨_, by first | rfl | (simp [errW_none, errW_some] <;> rfl) | (simp [*, errW_none, errW_some] <;> rfl), by (with_reducible repeat (first | apply Kd.R_alloc | apply Kd.R_drewN | apply Kd.R_drew)); exact Kd.R_mono HO_7.out (fun _ hk => trivial), by repeat (first | (with_reducible first | exact HB.out | apply below_alloc | apply pw_below_drewN | apply below_drew1) | exact HB.out)⟩
    · rw [if_neg c5] at H
      have c5b0 : (t213 == 0) = false := beq_eq_false_iff_ne.mpr c5
      have c5b1 : (t213 != 0) = true := bne_iff_ne.mpr c5
      simp only [Option.some.injEq, Prod.mk.injEq] at H
      obtain ⟨rfl, rfl⟩ := H
      go_enter Try.func10, Try.ntmps10
      go_wp2_with (first | ((with_reducible refine gate_callee (f := 21) rfl ?_); refine goesL_ (some 14) rfl rfl Try.func21 (by kernel_rfl) rfl #[.int .u64 a0, .slice A1 l1.length c1] rfl (by (try simp only [List.map_toArray, List.map_cons, List.map_nil]); first | done | rfl | (simp only [List.length_drop, List.length_take]; rfl)) ?_; (with_reducible refine (massifref04_Set.calls k a0 _ _ l1 t213 _ ?side1 ?side2 A4.out).mono ?_); (case side1 => repeat (first | exact HR1.out | (with_reducible refine Kd.C_alloc ?_ _) | (with_reducible refine Kd.C_drewN ?_ _) | (with_reducible refine Kd.C_drew ?_))); (case side2 => exact HC1.out); rintro e w' ⟨rfl, ⟨nd, rfl⟩⟩; refine ⟨_, rfl, ?_⟩))
      go_ret2
      exact ⟨_, by first | rfl | (simp [errW_none, errW_some] <;> rfl) | (simp [*, errW_none, errW_some] <;> rfl), by first | exact Kd.R_nil _ _ _ _ _ | exact Kd.N_nil _ _ _ _ _ | exact Kd.V_nil _ _ _ _ _ | exact Kd.Q_nil _ _ _ _ _ | exact Kd.S_nil _ _ _ _ _, by repeat (first | (with_reducible first | exact HB.out | apply below_alloc | apply pw_below_drewN | apply below_drew1) | exact HB.out)⟩

/-! ### massiflaw04_kept: function 13 -/
mutual
def massiflaw04_kept.j0 : Nat → List Int → List Int → Int → Bool → Option (Bool)
  | 0, _, _, _, _ => none
  | k + 1, x0, x1, x5, x33 => if x33 = true then (some false) else (massiflaw04_kept.l0 k x0 x1 x5 0)
def massiflaw04_kept.l0 : Nat → List Int → List Int → Int → Int → Option (Bool)
  | 0, _, _, _, _ => none
  | k + 1, x0, x1, x5, x6 => if x6 < x5 then (if 0 ≤ x6 then (if x6 < (x0.length : Int) then (if x6 < (x1.length : Int) then (if (rd x0 x6) = (rd x1 x6) then (massiflaw04_kept.l0 k x0 x1 x5 (wrap64 (x6 + 1))) else (some false)) else (none)) else (none)) else (none)) else (some true)
end
def massiflaw04_kept.f (k : Nat) (l0 : List Int) (l1 : List Int) : Option (Bool) := if (l0.length : Int) = (l1.length : Int) then (if 0 ≤ (wrap64 ((l1.length : Int) + 1)) then (if (wrap64 ((l1.length : Int) + 1)) ≤ (l0.length : Int) then (if 0 ≤ (l1.length : Int) then (if (l1.length : Int) < ((l0.take ((wrap64 ((l1.length : Int) + 1)) : Int).toNat).length : Int) then (if (rd (l0.take ((wrap64 ((l1.length : Int) + 1)) : Int).toNat) (l1.length : Int)) = 77 then (if 0 ≤ (wrap64 ((l1.length : Int) + 2)) then (if (wrap64 ((l1.length : Int) + 2)) ≤ (l0.length : Int) then (if (wrap64 ((l1.length : Int) + 1)) < ((l0.take ((wrap64 ((l1.length : Int) + 2)) : Int).toNat).length : Int) then (massiflaw04_kept.j0 k l0 l1 (l1.length : Int) ((rd (l0.take ((wrap64 ((l1.length : Int) + 2)) : Int).toNat) (wrap64 ((l1.length : Int) + 1))) != 78)) else (none)) else (none)) else (none)) else (massiflaw04_kept.j0 k l0 l1 (l1.length : Int) true)) else (none)) else (none)) else (none)) else (none)) else (massiflaw04_kept.j0 k l0 l1 (l1.length : Int) true)
theorem massiflaw04_kept.mono_l : ∀ k, (∀ y0 y1 y2 y3, LeO (massiflaw04_kept.j0 k y0 y1 y2 y3) (massiflaw04_kept.j0 (k + 1) y0 y1 y2 y3)) ∧ (∀ y0 y1 y2 y3, LeO (massiflaw04_kept.l0 k y0 y1 y2 y3) (massiflaw04_kept.l0 (k + 1) y0 y1 y2 y3))
  | 0 => ⟨fun _ _ _ _ r h => by simp [massiflaw04_kept.j0] at h, fun _ _ _ _ r h => by simp [massiflaw04_kept.l0] at h⟩
  | k + 1 => by
    obtain ⟨ih0, ih1⟩ := massiflaw04_kept.mono_l k
    refine ⟨?_, ?_⟩
    · intro y0 y1 y2 y3
      unfold massiflaw04_kept.j0
      repeat' first
      | (with_reducible exact ih0 _ _ _ _)
      | (with_reducible exact ih1 _ _ _ _)
      | (with_reducible exact LeO.refl _)
      | (with_reducible exact LeO.none _)
      | (with_reducible refine LeO.ite ?_ ?_)
      | (with_reducible refine LeO.bind ?_ (fun _ => ?_))
      | exact ih0 _ _ _ _
      | exact ih1 _ _ _ _
      | exact LeO.none _
      | refine LeO.ite ?_ ?_
      | refine LeO.bind ?_ (fun _ => ?_)
    · intro y0 y1 y2 y3
      unfold massiflaw04_kept.l0
      repeat' first
      | (with_reducible exact ih0 _ _ _ _)
      | (with_reducible exact ih1 _ _ _ _)
      | (with_reducible exact LeO.refl _)
      | (with_reducible exact LeO.none _)
      | (with_reducible refine LeO.ite ?_ ?_)
      | (with_reducible refine LeO.bind ?_ (fun _ => ?_))
      | exact ih0 _ _ _ _
      | exact ih1 _ _ _ _
      | exact LeO.none _
      | refine LeO.ite ?_ ?_
      | refine LeO.bind ?_ (fun _ => ?_)
theorem massiflaw04_kept.mono : ∀ a0 a1 k, LeO (massiflaw04_kept.f k a0 a1) (massiflaw04_kept.f (k + 1) a0 a1) := by
  intro a0 a1 k
  obtain ⟨ih0, ih1⟩ := massiflaw04_kept.mono_l k
  unfold massiflaw04_kept.f
  repeat' first
      | (with_reducible exact ih0 _ _ _ _)
      | (with_reducible exact ih1 _ _ _ _)
      | (with_reducible exact LeO.refl _)
      | (with_reducible exact LeO.none _)
      | (with_reducible refine LeO.ite ?_ ?_)
      | (with_reducible refine LeO.bind ?_ (fun _ => ?_))
      | exact ih0 _ _ _ _
      | exact ih1 _ _ _ _
      | exact LeO.none _
      | refine LeO.ite ?_ ?_
      | refine LeO.bind ?_ (fun _ => ?_)
set_option maxHeartbeats 8000000 in
set_option maxRecDepth 100000 in
theorem massiflaw04_kept.calls (k : Nat) (A0 : Option Addr) (c0 : Nat) (l0 : List Int) (A1 : Option Addr) (c1 : Nat) (l1 : List Int) (r : Bool) (w : World) (hr0 : Kd.C (Kd.int .u64) w A0 l0.length l0) (hc0 : l0.length ≤ c0) (hr1 : Kd.C (Kd.int .u64) w A1 l1.length l1) (hc1 : l1.length ≤ c1) (h : massiflaw04_kept.f k l0 l1 = some r) :
    Calls Try.prog 13 #[.slice A0 l0.length c0, .slice A1 l1.length c1] w fun e w' => e = .returned (.bool r) ∧ Drawn0 w w' := by
  have HR0 := Aside0.mk hr0
  have HC0 := Aside0.mk hc0
  clear hr0 hc0
  have HR1 := Aside0.mk hr1
  have HC1 := Aside0.mk hc1
  clear hr1 hc1
  have H : (if (l0.length : Int) = (l1.length : Int) then (if 0 ≤ (wrap64 ((l1.length : Int) + 1)) then (if (wrap64 ((l1.length : Int) + 1)) ≤ (l0.length : Int) then (if 0 ≤ (l1.length : Int) then (if (l1.length : Int) < ((l0.take ((wrap64 ((l1.length : Int) + 1)) : Int).toNat).length : Int) then (if (rd (l0.take ((wrap64 ((l1.length : Int) + 1)) : Int).toNat) (l1.length : Int)) = 77 then (if 0 ≤ (wrap64 ((l1.length : Int) + 2)) then (if (wrap64 ((l1.length : Int) + 2)) ≤ (l0.length : Int) then (if (wrap64 ((l1.length : Int) + 1)) < ((l0.take ((wrap64 ((l1.length : Int) + 2)) : Int).toNat).length : Int) then (massiflaw04_kept.j0 k l0 l1 (l1.length : Int) ((rd (l0.take ((wrap64 ((l1.length : Int) + 2)) : Int).toNat) (wrap64 ((l1.length : Int) + 1))) != 78)) else (none)) else (none)) else (none)) else (massiflaw04_kept.j0 k l0 l1 (l1.length : Int) true)) else (none)) else (none)) else (none)) else (none)) else (massiflaw04_kept.j0 k l0 l1 (l1.length : Int) true)) = some r := h
  clear h
  have HC3 := Aside0.mk H
  clear H
  go_enter Try.func13, Try.ntmps13
  go_upto_region 2 with (fail)
  repeat (go_quiet (fail); go_upto_region 2 with (fail))
  go_cut [33] (fun v33 wc => ∃ (kq : Nat) (x33_2 : Bool), v33 = .bool x33_2 ∧ Aside0 (massiflaw04_kept.j0 kq l0 l1 (l1.length : Int) x33_2 = some r) ∧ Aside0 (kq ≤ k) ∧ Drawn0 w wc)
  case first =>
    have H := HC3.out
    clear HC3
    by_cases c4 : (l0.length : Int) = (l1.length : Int)
    · rw [if_pos c4] at H
      have c4b0 : ((l0.length : Int) == (l1.length : Int)) = true := beq_iff_eq.mpr c4
      have c4b1 : ((l0.length : Int) != (l1.length : Int)) = false := bne_eq_false_iff_eq.mpr c4
      have c4b2 : (l0.length == l1.length) = true := by first | simpa using c4 | (simp at c4 ⊢; omega)
      clear c4
      (first | rw [c4b0] | (simp only [i64_w, i32_w]; rw [c4b0]) | skip)
      obtain ⟨ji5, hji5⟩ : ∃ j_ : Int, (wrap64 ((l1.length : Int) + 1)) = j_ := ⟨_, rfl⟩
      replace H : (if 0 ≤ (ji5) then (if (ji5) ≤ (l0.length : Int) then (if 0 ≤ (l1.length : Int) then (if (l1.length : Int) < ((l0.take ((ji5) : Int).toNat).length : Int) then (if (rd (l0.take ((ji5) : Int).toNat) (l1.length : Int)) = 77 then (if 0 ≤ (wrap64 ((l1.length : Int) + 2)) then (if (wrap64 ((l1.length : Int) + 2)) ≤ (l0.length : Int) then (if (ji5) < ((l0.take ((wrap64 ((l1.length : Int) + 2)) : Int).toNat).length : Int) then (massiflaw04_kept.j0 k l0 l1 (l1.length : Int) ((rd (l0.take ((wrap64 ((l1.length : Int) + 2)) : Int).toNat) (ji5)) != 78)) else (none)) else (none)) else (none)) else (massiflaw04_kept.j0 k l0 l1 (l1.length : Int) true)) else (none)) else (none)) else (none)) else (none)) = some r := by first | (rw [hji5] at H; exact H) | (simp only [hji5] at H ⊢; exact H)
      have hji5w : (IntKind.i64.wrap ((l1.length : Int) + 1)) = ji5 := (i64_w _).trans hji5
      by_cases c6 : 0 ≤ (ji5)
      · rw [if_pos c6] at H
        have c6b0 := eq_true c6
        have c6b1 : decide (0 ≤ (ji5)) = true := decide_eq_true c6
        clear c6
        by_cases c7 : (ji5) ≤ (l0.length : Int)
        · rw [if_pos c7] at H
          have c7b0 := eq_true c7
          have c7b1 : decide ((ji5) ≤ (l0.length : Int)) = true := decide_eq_true c7
          clear c7
          by_cases c8 : 0 ≤ (l1.length : Int)
          · rw [if_pos c8] at H
            have c8b0 : decide (0 ≤ (l1.length : Int)) = true := decide_eq_true c8
            have c8b1 : decide (0 ≤ l1.length) = true := decide_eq_true (by omega)
            clear c8
            by_cases c9 : (l1.length : Int) < ((l0.take ((ji5) : Int).toNat).length : Int)
            · rw [if_pos c9] at H
              have c9b0 : decide ((l1.length : Int) < ((l0.take ((ji5) : Int).toNat).length : Int)) = true := decide_eq_true c9
              have c9b8 : ((l1.length : Int) < ((((ji5) : Int).toNat : Nat) : Int)) = True := eq_true (by have h_ := c9; rw [List.length_take] at h_; omega)
              have c9b6 : ((l1.length : Int) < max ((ji5) : Int) 0) = True := eq_true (by have h_ := c9; rw [List.length_take] at h_; omega)
              have c9b9 : (l1.length < ((ji5) : Int).toNat) = True := eq_true (by have h_ := c9; rw [List.length_take] at h_; omega)
              have c9b1 : decide (l1.length < (l0.take ((ji5) : Int).toNat).length) = true := decide_eq_true (Int.ofNat_lt.mp c9)
              clear c9
              by_cases c10 : (rd (l0.take ((ji5) : Int).toNat) (l1.length : Int)) = 77
              · rw [if_pos c10] at H
                have c10b0 : ((rd (l0.take ((ji5) : Int).toNat) (l1.length : Int)) == 77) = true := beq_iff_eq.mpr c10
                have c10b1 : ((rd (l0.take ((ji5) : Int).toNat) (l1.length : Int)) != 77) = false := bne_eq_false_iff_eq.mpr c10
                clear c10
                obtain ⟨ji11, hji11⟩ : ∃ j_ : Int, (wrap64 ((l1.length : Int) + 2)) = j_ := ⟨_, rfl⟩
                replace H : (if 0 ≤ (ji11) then (if (ji11) ≤ (l0.length : Int) then (if (ji5) < ((l0.take ((ji11) : Int).toNat).length : Int) then (massiflaw04_kept.j0 k l0 l1 (l1.length : Int) ((rd (l0.take ((ji11) : Int).toNat) (ji5)) != 78)) else (none)) else (none)) else (none)) = some r := by first | (rw [hji11] at H; exact H) | (simp only [hji11] at H ⊢; exact H)
                have hji11w : (IntKind.i64.wrap ((l1.length : Int) + 2)) = ji11 := (i64_w _).trans hji11
                by_cases c12 : 0 ≤ (ji11)
                · rw [if_pos c12] at H
                  have c12b0 := eq_true c12
                  have c12b1 : decide (0 ≤ (ji11)) = true := decide_eq_true c12
                  clear c12
                  by_cases c13 : (ji11) ≤ (l0.length : Int)
                  · rw [if_pos c13] at H
                    have c13b0 := eq_true c13
                    have c13b1 : decide ((ji11) ≤ (l0.length : Int)) = true := decide_eq_true c13
                    clear c13
                    by_cases c14 : (ji5) < ((l0.take ((ji11) : Int).toNat).length : Int)
                    · rw [if_pos c14] at H
                      have c14b0 : decide ((ji5) < ((l0.take ((ji11) : Int).toNat).length : Int)) = true := decide_eq_true c14
                      have c14b8 : ((ji5) < ((((ji11) : Int).toNat : Nat) : Int)) = True := eq_true (by have h_ := c14; rw [List.length_take] at h_; omega)
                      have c14b6 : ((ji5) < max ((ji11) : Int) 0) = True := eq_true (by have h_ := c14; rw [List.length_take] at h_; omega)
                      clear c14
                      have H' := Aside0.mk H
                      clear H
                      obtain ⟨i015, hi015, _, hsz15, _⟩ := info_parts info22
                      obtain ⟨hcut15, hA15, hC15⟩ := print_take_of (P := Try.prog) (Value.int .u64) 0 23 22 .i64 Try.underlying23 hi015 hsz15 A0 c0 l0 (ji5) (of_decide_eq_true (by first | (with_reducible assumption) | assumption)) (of_decide_eq_true (by first | (with_reducible assumption) | assumption)) HC0.out
                      have HR224 := Aside0.mk (Kd.C_of_reads (h1 := fun _ => rfl) (hA15 _ (Kd.reads_of_C HR0.out)))
                      have HC224 := Aside0.mk hC15
                      clear hA15 hC15 hi015 hsz15
                      have p225 : 0 ≤ ((l1.length : Int) : Int) := of_decide_eq_true (by first | (with_reducible assumption) | assumption)
                      have q225 : (l1.length : Int) < ((l0.take ((ji5) : Int).toNat).length : Int) := of_decide_eq_true (by first | (with_reducible assumption) | assumption)
                      obtain ⟨ad225, e225, hx225_0⟩ := Kd.at_int HR224.out (l1.length : Int) p225 q225
                      cases e225
                      (try simp only [Go.IntWalk.toNatUp] at hx225_0)
                      replace p225 := eq_true p225
                      replace q225 := eq_true q225
                      obtain ⟨i016, hi016, _, hsz16, _⟩ := info_parts info22
                      obtain ⟨hcut16, hA16, hC16⟩ := print_take_of (P := Try.prog) (Value.int .u64) 0 23 22 .i64 Try.underlying23 hi016 hsz16 (some ad225) c0 l0 (ji11) (of_decide_eq_true (by first | (with_reducible assumption) | assumption)) (of_decide_eq_true (by first | (with_reducible assumption) | assumption)) HC0.out
                      have HR226 := Aside0.mk (Kd.C_of_reads (h1 := fun _ => rfl) (hA16 _ (Kd.reads_of_C HR0.out)))
                      have HC226 := Aside0.mk hC16
                      clear hA16 hC16 hi016 hsz16
                      have p227 : 0 ≤ ((ji5) : Int) := of_decide_eq_true (by first | (with_reducible assumption) | assumption)
                      have q227 : (ji5) < ((l0.take ((ji11) : Int).toNat).length : Int) := of_decide_eq_true (by first | (with_reducible assumption) | assumption)
                      obtain ⟨ad227, e227, hx227_0⟩ := Kd.at_int HR226.out (ji5) p227 q227
                      obtain rfl : ad225 = ad227 := (by injection e227)
                      replace p227 := eq_true p227
                      replace q227 := eq_true q227
                      go_wp2
                      repeat (go_quiet (fail); try go_wp2)
                      go_meet
                      case rel => exact ⟨_, (((rd (l0.take ((ji11) : Int).toNat) (ji5)) != 78)), (by first | rfl | (simp; done) | (simp only [← hji5, ← hji11] <;> (first | rfl | simp)) | (simp [*]; done)), H', ⟨by first | omega | exact Nat.le_refl _⟩, by repeat (first | exact Drawn0.refl _ | apply Drawn0.step)⟩
                    · rw [if_neg c14] at H
                      exact absurd H (by simp)
                  · rw [if_neg c13] at H
                    exact absurd H (by simp)
                · rw [if_neg c12] at H
                  exact absurd H (by simp)
              · rw [if_neg c10] at H
                have c10b0 : ((rd (l0.take ((ji5) : Int).toNat) (l1.length : Int)) == 77) = false := beq_eq_false_iff_ne.mpr c10
                have c10b1 : ((rd (l0.take ((ji5) : Int).toNat) (l1.length : Int)) != 77) = true := bne_iff_ne.mpr c10
                have H' := Aside0.mk H
                clear H
                obtain ⟨i017, hi017, _, hsz17, _⟩ := info_parts info22
                obtain ⟨hcut17, hA17, hC17⟩ := print_take_of (P := Try.prog) (Value.int .u64) 0 23 22 .i64 Try.underlying23 hi017 hsz17 A0 c0 l0 (ji5) (of_decide_eq_true (by first | (with_reducible assumption) | assumption)) (of_decide_eq_true (by first | (with_reducible assumption) | assumption)) HC0.out
                have HR224 := Aside0.mk (Kd.C_of_reads (h1 := fun _ => rfl) (hA17 _ (Kd.reads_of_C HR0.out)))
                have HC224 := Aside0.mk hC17
                clear hA17 hC17 hi017 hsz17
                have p225 : 0 ≤ ((l1.length : Int) : Int) := of_decide_eq_true (by first | (with_reducible assumption) | assumption)
                have q225 : (l1.length : Int) < ((l0.take ((ji5) : Int).toNat).length : Int) := of_decide_eq_true (by first | (with_reducible assumption) | assumption)
                obtain ⟨ad225, e225, hx225_0⟩ := Kd.at_int HR224.out (l1.length : Int) p225 q225
                cases e225
                (try simp only [Go.IntWalk.toNatUp] at hx225_0)
                replace p225 := eq_true p225
                replace q225 := eq_true q225
                go_wp2
                repeat (go_quiet (fail); try go_wp2)
                go_meet
                case rel => exact ⟨_, (true), (by first | rfl | (simp; done) | (simp [*]; done)), H', ⟨by first | omega | exact Nat.le_refl _⟩, by repeat (first | exact Drawn0.refl _ | apply Drawn0.step)⟩
            · rw [if_neg c9] at H
              exact absurd H (by simp)
          · rw [if_neg c8] at H
            exact absurd H (by simp)
        · rw [if_neg c7] at H
          exact absurd H (by simp)
      · rw [if_neg c6] at H
        exact absurd H (by simp)
    · rw [if_neg c4] at H
      have c4b0 : ((l0.length : Int) == (l1.length : Int)) = false := beq_eq_false_iff_ne.mpr c4
      have c4b1 : ((l0.length : Int) != (l1.length : Int)) = true := bne_iff_ne.mpr c4
      have c4b2 : (l0.length == l1.length) = false := by first | simpa using c4 | (simp at c4 ⊢; omega)
      (first | rw [c4b0] | (simp only [i64_w, i32_w]; rw [c4b0]) | skip)
      have H' := Aside0.mk H
      clear H
      go_wp2
      repeat (go_quiet (fail); try go_wp2)
      go_meet
      case rel => exact ⟨_, (true), (by first | rfl | (simp; done) | (simp [*]; done)), H', ⟨by first | omega | exact Nat.le_refl _⟩, by repeat (first | exact Drawn0.refl _ | apply Drawn0.step)⟩
  case rest =>
    clear HC3
    try clear c1
    try clear p2
    try clear q2
    try clear hx2
    try clear c4
    try clear c4b0
    try clear c4b1
    try clear c4b2
    try clear c6
    try clear c6b0
    try clear c6b1
    try clear p6
    try clear c7
    try clear c7b0
    try clear c7b1
    try clear c8
    try clear c8b0
    try clear c8b1
    try clear c9
    try clear c9b0
    try clear c9b1
    try clear c10
    try clear c10b0
    try clear c10b1
    try clear c12
    try clear c12b0
    try clear c12b1
    try clear c13
    try clear c13b0
    try clear c13b1
    try clear c14
    try clear c14b0
    try clear hx225_0
    try clear hx227_0
    try clear p225
    try clear p227
    try clear q225
    try clear q227
    obtain ⟨kq, x33_2, rfl, HA, HJ2, ⟨mc2, rfl⟩⟩ := hcut
    cases kq with
    | zero => exact absurd HA.out (by simp [massiflaw04_kept.j0])
    | succ kj2 =>
      have H := HA.out
      clear HA
      simp only [massiflaw04_kept.j0] at H
      by_cases c18 : x33_2 = true
      · subst c18
        have H1 : (some false) = some r := by rw [if_pos rfl] at H; exact H
        clear H
        have H := H1
        clear H1
        obtain rfl := Option.some.inj H
        go_wp2
        repeat (go_quiet (fail); try go_wp2)
        go_ret
        exact ⟨by first | rfl | (simp; done) | (simp [*]; done), by repeat (first | exact Drawn0.refl _ | apply Drawn0.step)⟩
      · replace c18 := Bool.eq_false_iff.mpr c18
        subst c18
        have H1 : (massiflaw04_kept.l0 kj2 l0 l1 (l1.length : Int) 0) = some r := by rw [if_neg (show ¬ (false = true) by decide)] at H; exact H
        clear H
        have H := H1
        clear H1
        have H' := Aside0.mk H
        clear H
        go_wp2
        repeat (go_quiet (fail); try go_wp2)
        go_loopg [6] kj2 (fun kq v6 w' => ∃ (x6_2 : Int), v6 = .int .i64 x6_2 ∧ Aside0 (massiflaw04_kept.l0 kq l0 l1 (l1.length : Int) x6_2 = some r) ∧ Aside0 (kq ≤ kj2) ∧ Drawn0 w w')
        case atStart => exact ⟨(0), (by first | rfl | (simp; done) | (simp [*]; done)), H', ⟨Nat.le_refl _⟩, by repeat (first | exact Drawn0.refl _ | apply Drawn0.step)⟩
        case round =>
          clear H'
          try clear c1
          try clear c2
          try clear p2
          try clear q2
          try clear hx2
          try clear c4
          try clear c4b0
          try clear c4b1
          try clear c4b2
          try clear c6
          try clear c6b0
          try clear c6b1
          try clear p6
          try clear c7
          try clear c7b0
          try clear c7b1
          try clear c8
          try clear c8b0
          try clear c8b1
          try clear c9
          try clear c9b0
          try clear c9b1
          try clear c10
          try clear c10b0
          try clear c10b1
          try clear c12
          try clear c12b0
          try clear c12b1
          try clear c13
          try clear c13b0
          try clear c13b1
          try clear c14
          try clear c14b0
          try clear c18
          try clear hx225_0
          try clear hx227_0
          try clear p2
          try clear p225
          try clear p227
          try clear p6
          try clear q2
          try clear q225
          try clear q227
          obtain ⟨x6_2, rfl, HA, HK2, ⟨m2, rfl⟩⟩ := hrel
          cases gk with
          | zero => exact absurd HA.out (by simp [massiflaw04_kept.l0])
          | succ k2 =>
            have H := HA.out
            clear HA
            simp only [massiflaw04_kept.l0] at H
            by_cases c19 : x6_2 < (l1.length : Int)
            · rw [if_pos c19] at H
              have c19b0 : decide (x6_2 < (l1.length : Int)) = true := decide_eq_true c19
              clear c19
              by_cases c20 : 0 ≤ x6_2
              · rw [if_pos c20] at H
                have c20b0 : decide (0 ≤ x6_2) = true := decide_eq_true c20
                clear c20
                by_cases c21 : x6_2 < (l0.length : Int)
                · rw [if_pos c21] at H
                  have c21b0 : decide (x6_2 < (l0.length : Int)) = true := decide_eq_true c21
                  clear c21
                  by_cases c22 : x6_2 < (l1.length : Int)
                  · rw [if_pos c22] at H
                    have c22b0 : decide (x6_2 < (l1.length : Int)) = true := decide_eq_true c22
                    clear c22
                    by_cases c23 : (rd l0 x6_2) = (rd l1 x6_2)
                    · rw [if_pos c23] at H
                      have c23b0 : ((rd l0 x6_2) == (rd l1 x6_2)) = true := beq_iff_eq.mpr c23
                      have c23b1 : ((rd l0 x6_2) != (rd l1 x6_2)) = false := bne_eq_false_iff_eq.mpr c23
                      clear c23
                      have H' := Aside0.mk H
                      clear H
                      have p228 : 0 ≤ (x6_2 : Int) := of_decide_eq_true (by first | (with_reducible assumption) | assumption)
                      have q228 : x6_2 < (l0.length : Int) := of_decide_eq_true (by first | (with_reducible assumption) | assumption)
                      obtain ⟨ad228, e228, hx228_0⟩ := Kd.at_int HR0.out x6_2 p228 q228
                      cases e228
                      replace p228 := eq_true p228
                      replace q228 := eq_true q228
                      have p229 : 0 ≤ (x6_2 : Int) := of_decide_eq_true (by first | (with_reducible assumption) | assumption)
                      have q229 : x6_2 < (l1.length : Int) := of_decide_eq_true (by first | (with_reducible assumption) | assumption)
                      obtain ⟨ad229, e229, hx229_0⟩ := Kd.at_int HR1.out x6_2 p229 q229
                      cases e229
                      replace p229 := eq_true p229
                      replace q229 := eq_true q229
                      go_wp2
                      repeat (go_quiet (fail); try go_wp2)
                      go_roundg k2
                      case measure => have := HJ2.out; have := HK2.out; omega
                      case rel => exact ⟨(wrap64 (x6_2 + 1)), (by first | rfl | (simp; done) | (simp [*]; done)), H', ⟨by have := HJ2.out; have := HK2.out; omega⟩, by repeat (first | exact Drawn0.refl _ | apply Drawn0.step)⟩
                    · rw [if_neg c23] at H
                      have c23b0 : ((rd l0 x6_2) == (rd l1 x6_2)) = false := beq_eq_false_iff_ne.mpr c23
                      have c23b1 : ((rd l0 x6_2) != (rd l1 x6_2)) = true := bne_iff_ne.mpr c23
                      obtain rfl := Option.some.inj H
                      have p228 : 0 ≤ (x6_2 : Int) := of_decide_eq_true (by first | (with_reducible assumption) | assumption)
                      have q228 : x6_2 < (l0.length : Int) := of_decide_eq_true (by first | (with_reducible assumption) | assumption)
                      obtain ⟨ad228, e228, hx228_0⟩ := Kd.at_int HR0.out x6_2 p228 q228
                      cases e228
                      replace p228 := eq_true p228
                      replace q228 := eq_true q228
                      have p229 : 0 ≤ (x6_2 : Int) := of_decide_eq_true (by first | (with_reducible assumption) | assumption)
                      have q229 : x6_2 < (l1.length : Int) := of_decide_eq_true (by first | (with_reducible assumption) | assumption)
                      obtain ⟨ad229, e229, hx229_0⟩ := Kd.at_int HR1.out x6_2 p229 q229
                      cases e229
                      replace p229 := eq_true p229
                      replace q229 := eq_true q229
                      go_wp2
                      repeat (go_quiet (fail); try go_wp2)
                      go_ret
                      exact ⟨by first | rfl | (simp; done) | (simp [*]; done), by repeat (first | exact Drawn0.refl _ | apply Drawn0.step)⟩
                  · rw [if_neg c22] at H
                    exact absurd H (by simp)
                · rw [if_neg c21] at H
                  exact absurd H (by simp)
              · rw [if_neg c20] at H
                exact absurd H (by simp)
            · rw [if_neg c19] at H
              have c19b0 : decide (x6_2 < (l1.length : Int)) = false := decide_eq_false c19
              clear c19
              obtain rfl := Option.some.inj H
              go_wp2
              repeat (go_quiet (fail); try go_wp2)
              go_ret
              exact ⟨by first | rfl | (simp; done) | (simp [*]; done), by repeat (first | exact Drawn0.refl _ | apply Drawn0.step)⟩

end Go.Proofs.Ytkefjoljokfieaa.PCoverRests
