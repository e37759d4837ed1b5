/- The walk of PlacePostorder, by itself. -/
import Derived.Test.YtlbehenaoiddkaaPPlacePostorderx0
import Derived.Test.YtlbehenaoiddkaaPPlacePostorderx1
import Derived.Test.YtlbehenaoiddkaaPPlacePostorderx2
import Derived.Test.YtlbehenaoiddkaaPPlacePostorderx3
import Derived.Test.YtlbehenaoiddkaaPPlacePostorderx4
namespace Go.Proofs.Ytlbehenaoiddkaa.PPlacePostorder
open Go.RowKit Go.Proofs.YtlbehenaoiddkaaW.PrintWords Go.Proofs.YtlbehenaoiddkaaW.PrintLast Go.Proofs.YtlbehenaoiddkaaW.PrintMore
attribute [local go_sem] max2_int min2_int max_two min_two max_three min_three max_four min_four   -- for this text's walks alone
set_option linter.unusedVariables false
set_option linter.unusedSimpArgs false

attribute [local go_sem high] eqA24
set_option maxHeartbeats 8000000 in
set_option maxRecDepth 100000 in
theorem massiflaw03_PlacePostorder.calls (k : Nat) (a0_0 : Int) (a0_1 : Int) (r : Bool) (w : World) (h : massiflaw03_PlacePostorder.f k a0_0 a0_1 = some r) :
    Calls Try.prog 6 #[.agg #[.int .i64 a0_0, .int .u64 a0_1]] w fun e w' => e = .returned (.bool r) ∧ Below w.heap.size w w' := by
  have hu24 := Try.underlying24
  have HB := Aside0.mk (Below.refl w.heap.size w)
  have H : ((massiflaw03_alive.f k).bind fun t169 => (if t169 = true then ((massiflaw03_bent.f a0_0 a0_1).bind fun bt170 => ((place_Of.f k bt170.1 bt170.2).bind fun bt173 => ((place_Height.f k bt173.1).bind fun bt175 => (if bt173.2 = true then (if bt175.2 = true then (massiflaw03_PlacePostorder.j0 k bt173.1 (bt175.1 != bt170.1) bt170.1 bt170.2) else (massiflaw03_PlacePostorder.j0 k bt173.1 true bt170.1 bt170.2)) else (massiflaw03_PlacePostorder.j0 k bt173.1 true bt170.1 bt170.2))))) else (some false))) = some r := h
  clear h
  replace H := Option.bind_eq_some_iff.mp H
  obtain ⟨t169, A20, H⟩ := H
  replace H : (if t169 = true then ((massiflaw03_bent.f a0_0 a0_1).bind fun bt170 => ((place_Of.f k bt170.1 bt170.2).bind fun bt173 => ((place_Height.f k bt173.1).bind fun bt175 => (if bt173.2 = true then (if bt175.2 = true then (massiflaw03_PlacePostorder.j0 k bt173.1 (bt175.1 != bt170.1) bt170.1 bt170.2) else (massiflaw03_PlacePostorder.j0 k bt173.1 true bt170.1 bt170.2)) else (massiflaw03_PlacePostorder.j0 k bt173.1 true bt170.1 bt170.2))))) else (some false)) = some r := H
  have A2 := Aside0.mk A20
  clear A20
  by_cases c3 : t169 = true
  · subst c3
    have H1 : ((massiflaw03_bent.f a0_0 a0_1).bind fun bt170 => ((place_Of.f k bt170.1 bt170.2).bind fun bt173 => ((place_Height.f k bt173.1).bind fun bt175 => (if bt173.2 = true then (if bt175.2 = true then (massiflaw03_PlacePostorder.j0 k bt173.1 (bt175.1 != bt170.1) bt170.1 bt170.2) else (massiflaw03_PlacePostorder.j0 k bt173.1 true bt170.1 bt170.2)) else (massiflaw03_PlacePostorder.j0 k bt173.1 true bt170.1 bt170.2))))) = some r := by rw [if_pos rfl] at H; exact H
    clear H
    have H := H1
    clear H1
    replace H := Option.bind_eq_some_iff.mp H
    obtain ⟨⟨t170, t171⟩, A40, H⟩ := H
    replace H : ((place_Of.f k t170 t171).bind fun bt173 => ((place_Height.f k bt173.1).bind fun bt175 => (if bt173.2 = true then (if bt175.2 = true then (massiflaw03_PlacePostorder.j0 k bt173.1 (bt175.1 != t170) t170 t171) else (massiflaw03_PlacePostorder.j0 k bt173.1 true t170 t171)) else (massiflaw03_PlacePostorder.j0 k bt173.1 true t170 t171)))) = some r := H
    have A4 := Aside0.mk A40
    clear A40
    replace H := Option.bind_eq_some_iff.mp H
    obtain ⟨⟨t173, t174⟩, A50, H⟩ := H
    replace H : ((place_Height.f k t173).bind fun bt175 => (if t174 = true then (if bt175.2 = true then (massiflaw03_PlacePostorder.j0 k t173 (bt175.1 != t170) t170 t171) else (massiflaw03_PlacePostorder.j0 k t173 true t170 t171)) else (massiflaw03_PlacePostorder.j0 k t173 true t170 t171))) = some r := H
    have A5 := Aside0.mk A50
    clear A50
    replace H := Option.bind_eq_some_iff.mp H
    obtain ⟨⟨t175, t176⟩, A60, H⟩ := H
    replace H : (if t174 = true then (if t176 = true then (massiflaw03_PlacePostorder.j0 k t173 (t175 != t170) t170 t171) else (massiflaw03_PlacePostorder.j0 k t173 true t170 t171)) else (massiflaw03_PlacePostorder.j0 k t173 true t170 t171)) = some r := H
    have A6 := Aside0.mk A60
    clear A60
    have HC7 := Aside0.mk H
    clear H
    go_enter Try.func6, Try.ntmps6
    go_upto_region 6 with (first | ((with_reducible refine gate_dst (N := 1) rfl ?_); refine box_event ?hg (N := 1) ?hd (cs := #[.int .i64 a0_0, .int .u64 a0_1]) (t := 24) ?hr ?_; (case hd => rfl); (case hg => rfl); (case hr => first | (go_simp; done) | (go_simp; rfl)); intro gb168 hg w8 hbox hb; have n0_ := Aside0.mk (below_step (by repeat (first | (with_reducible first | exact HB.out | apply below_alloc | apply pw_below_drewN | apply below_drew1) | exact HB.out)) hb); have n1_ := Aside0.mk (hbox); have n2_ := Aside0.mk ((by rw [hg]; exact (below_size (by repeat (first | (with_reducible first | exact HB.out | apply below_alloc | apply pw_below_drewN | apply below_drew1) | exact HB.out))) : w.heap.size ≤ gb168)); have n3_ := Aside0.mk ((by rw [hg]; exact (below_size (by repeat (first | (with_reducible first | exact HB.out | apply below_alloc | apply pw_below_drewN | apply below_drew1) | exact HB.out))) : w.heap.size ≤ gb168)); clear HB; have HB := n0_; have BK168 := n1_; have GW168 := n2_; have GE168 := n3_; clear n0_ n1_ n2_ n3_; clear hb hbox hg) | ((with_reducible refine gate_callee (f := 11) rfl ?_); refine goesL_ (some 29) rfl rfl Try.func11 (by kernel_rfl) rfl #[] rfl (by (try simp only [List.map_toArray, List.map_cons, List.map_nil]); first | done | rfl | (simp only [List.length_drop, List.length_take]; rfl)) ?_; (with_reducible refine (massiflaw03_alive.calls k  true _ A2.out).mono ?_); rintro e w9 ⟨rfl, hb⟩; refine ⟨_, rfl, ?_⟩; have n0_ := Aside0.mk (blk_below (g := gb168) (o := .cells #[.int .i64 a0_0, .int .u64 a0_1] 24 (0, 0)) (by (with_reducible repeat (first | refine blk_drewN ?_ _ | refine blk_drew ?_ | refine blk_alloc ?_ _)); exact BK168.out) hb); have n1_ := Aside0.mk (below_step (by repeat (first | (with_reducible first | exact HB.out | apply below_alloc | apply pw_below_drewN | apply below_drew1 | refine below_set ?_ GE168.out) | exact HB.out)) hb); clear BK168; clear HB; have BK168 := n0_; have HB := n1_; clear n0_ n1_; (try clear hb); (try clear hb2); (try clear hk); (try clear hi); have hcz10_0 : w9.cell? ⟨gb168, 0, none⟩ = some (.int .i64 a0_0) := (blk_cell BK168.out 0).trans rfl; have hcz10_1 : w9.cell? ⟨gb168, 1, none⟩ = some (.int .u64 a0_1) := (blk_cell BK168.out 1).trans rfl; have hfz10_0 := blk_frozen BK168.out 0; have hfz10_1 := blk_frozen BK168.out 1) | ((with_reducible refine gate_callee (f := 30) rfl ?_); refine goesL_ (some 32) rfl rfl Try.func30 (by kernel_rfl) rfl #[.agg #[.int .i64 a0_0, .int .u64 a0_1]] rfl (by (try simp only [List.map_toArray, List.map_cons, List.map_nil]); first | done | rfl | (simp only [List.length_drop, List.length_take]; rfl)) ?_; (with_reducible refine (massiflaw03_bent.calls a0_0 a0_1 t170 t171 _ A4.out).mono ?_); rintro e w11 ⟨rfl, hb⟩; refine ⟨_, rfl, ?_⟩; have n0_ := Aside0.mk (blk_below (g := gb168) (o := .cells #[.int .i64 a0_0, .int .u64 a0_1] 24 (0, 0)) (by (with_reducible repeat (first | refine blk_drewN ?_ _ | refine blk_drew ?_ | refine blk_alloc ?_ _)); exact BK168.out) hb); have n1_ := Aside0.mk (below_step (by repeat (first | (with_reducible first | exact HB.out | apply below_alloc | apply pw_below_drewN | apply below_drew1 | refine below_set ?_ GE168.out) | exact HB.out)) hb); clear BK168; clear HB; have BK168 := n0_; have HB := n1_; clear n0_ n1_; (try clear hb); (try clear hb2); (try clear hk); (try clear hi)) | ((with_reducible refine gate_dst (N := 3) rfl ?_); refine box_event ?hg (N := 3) ?hd (cs := #[.int .i64 0, .int .u64 0]) (t := 24) ?hr ?_; (case hd => rfl); (case hg => rfl); (case hr => first | (go_simp; done) | (go_simp; rfl)); intro gb172 hg w12 hbox hb; have n0_ := Aside0.mk (blk_below (g := gb168) (o := .cells #[.int .i64 a0_0, .int .u64 a0_1] 24 (0, 0)) (by (with_reducible repeat (first | refine blk_drewN ?_ _ | refine blk_drew ?_ | refine blk_alloc ?_ _)); exact BK168.out) hb); have n1_ := Aside0.mk (below_step (by repeat (first | (with_reducible first | exact HB.out | apply below_alloc | apply pw_below_drewN | apply below_drew1 | refine below_set ?_ GE168.out) | exact HB.out)) hb); have n2_ := Aside0.mk (hbox); have n3_ := Aside0.mk ((by rw [hg]; exact (below_size (by repeat (first | (with_reducible first | exact HB.out | apply below_alloc | apply pw_below_drewN | apply below_drew1 | refine below_set ?_ GE168.out) | exact HB.out))) : w.heap.size ≤ gb172)); have n4_ := Aside0.mk ((by rw [hg]; exact (below_size (by repeat (first | (with_reducible first | exact HB.out | apply below_alloc | apply pw_below_drewN | apply below_drew1 | refine below_set ?_ GE168.out) | exact HB.out))) : w.heap.size ≤ gb172)); have n5_ := Aside0.mk ((by rw [hg]; exact Nat.ne_of_lt (blk_lt (g := gb168) (o := .cells #[.int .i64 a0_0, .int .u64 a0_1] 24 (0, 0)) (by (with_reducible repeat (first | refine blk_drewN ?_ _ | refine blk_drew ?_ | refine blk_alloc ?_ _)); exact BK168.out)) : gb168 ≠ gb172)); have n6_ := Aside0.mk ((by rw [hg]; exact Nat.ne_of_gt (blk_lt (g := gb168) (o := .cells #[.int .i64 a0_0, .int .u64 a0_1] 24 (0, 0)) (by (with_reducible repeat (first | refine blk_drewN ?_ _ | refine blk_drew ?_ | refine blk_alloc ?_ _)); exact BK168.out)) : gb172 ≠ gb168)); clear BK168; clear HB; have BK168 := n0_; have HB := n1_; have BK172 := n2_; have GW172 := n3_; have GE172 := n4_; have NB168_172 := n5_; have NB172_168 := n6_; clear n0_ n1_ n2_ n3_ n4_ n5_ n6_; clear hb hbox hg; have hnb13 := NB172_168.out; have hnc13 := NB168_172.out; have hcz14_0 : w12.cell? ⟨gb172, 0, none⟩ = some (.int .i64 0) := (blk_cell BK172.out 0).trans rfl; have hcz14_1 : w12.cell? ⟨gb172, 1, none⟩ = some (.int .u64 0) := (blk_cell BK172.out 1).trans rfl; have hfz14_0 := blk_frozen BK172.out 0; have hfz14_1 := blk_frozen BK172.out 1) | ((with_reducible refine gate_callee (f := 16) rfl ?_); refine goesL_ (some 35) rfl rfl Try.func16 (by kernel_rfl) rfl #[.agg #[.int .i64 t170, .int .u64 t171]] rfl (by (try simp only [List.map_toArray, List.map_cons, List.map_nil]); first | done | rfl | (simp only [List.length_drop, List.length_take]; rfl)) ?_; (with_reducible refine (place_Of.calls k t170 t171 t173 t174 _ A5.out).mono ?_); rintro e w15 ⟨rfl, hb⟩; refine ⟨_, rfl, ?_⟩; have n0_ := Aside0.mk (blk_below (g := gb168) (o := .cells #[.int .i64 a0_0, .int .u64 a0_1] 24 (0, 0)) (by (with_reducible repeat (first | refine blk_drewN ?_ _ | refine blk_drew ?_ | refine blk_alloc ?_ _)); refine blk_far ?_ NB168_172.out _; (with_reducible repeat (first | refine blk_drewN ?_ _ | refine blk_drew ?_ | refine blk_alloc ?_ _)); refine blk_far ?_ NB168_172.out _; (with_reducible repeat (first | refine blk_drewN ?_ _ | refine blk_drew ?_ | refine blk_alloc ?_ _)); exact BK168.out) hb); have n1_ := Aside0.mk (blk_below (g := gb172) (o := .cells #[.int .i64 t170, .int .u64 t171] 24 (0, 0)) (by (with_reducible repeat (first | refine blk_drewN ?_ _ | refine blk_drew ?_ | refine blk_alloc ?_ _)); refine blk_put (cs := #[.int .i64 t170, .int .u64 0]) ?_ 1 _ rfl; (with_reducible repeat (first | refine blk_drewN ?_ _ | refine blk_drew ?_ | refine blk_alloc ?_ _)); refine blk_put (cs := #[.int .i64 0, .int .u64 0]) ?_ 0 _ rfl; (with_reducible repeat (first | refine blk_drewN ?_ _ | refine blk_drew ?_ | refine blk_alloc ?_ _)); exact BK172.out) hb); have n2_ := Aside0.mk (below_step (by repeat (first | (with_reducible first | exact HB.out | apply below_alloc | apply pw_below_drewN | apply below_drew1 | refine below_set ?_ GE168.out | refine below_set ?_ GE172.out) | exact HB.out)) hb); clear BK168; clear BK172; clear HB; have BK168 := n0_; have BK172 := n1_; have HB := n2_; clear n0_ n1_ n2_; (try clear hb); (try clear hb2); (try clear hk); (try clear hi)) | ((with_reducible refine gate_callee (f := 23) rfl ?_); refine goesL_ (some 40) rfl rfl Try.func23 (by kernel_rfl) rfl #[.int .u64 t173] rfl (by (try simp only [List.map_toArray, List.map_cons, List.map_nil]); first | done | rfl | (simp only [List.length_drop, List.length_take]; rfl)) ?_; (with_reducible refine (place_Height.calls k t173 t175 t176 _ A6.out).mono ?_); rintro e w16 ⟨rfl, hb⟩; refine ⟨_, rfl, ?_⟩; have n0_ := Aside0.mk (blk_below (g := gb168) (o := .cells #[.int .i64 a0_0, .int .u64 a0_1] 24 (0, 0)) (by (with_reducible repeat (first | refine blk_drewN ?_ _ | refine blk_drew ?_ | refine blk_alloc ?_ _)); exact BK168.out) hb); have n1_ := Aside0.mk (blk_below (g := gb172) (o := .cells #[.int .i64 t170, .int .u64 t171] 24 (0, 0)) (by (with_reducible repeat (first | refine blk_drewN ?_ _ | refine blk_drew ?_ | refine blk_alloc ?_ _)); exact BK172.out) hb); have n2_ := Aside0.mk (below_step (by repeat (first | (with_reducible first | exact HB.out | apply below_alloc | apply pw_below_drewN | apply below_drew1 | refine below_set ?_ GE168.out | refine below_set ?_ GE172.out) | exact HB.out)) hb); clear BK168; clear BK172; clear HB; have BK168 := n0_; have BK172 := n1_; have HB := n2_; clear n0_ n1_ n2_; (try clear hb); (try clear hb2); (try clear hk); (try clear hi)))
    (try simp only [Act.put, List.setIfInBounds_toArray, List.set_cons_zero, List.set_cons_succ])
    go_cut [54] (fun v54 wc => ∃ (kq : Nat) (x54_6 : Bool), v54 = .bool x54_6 ∧ Aside0 (massiflaw03_PlacePostorder.j0 kq t173 x54_6 t170 t171 = some r) ∧ Aside0 (kq ≤ k) ∧ Aside0 (wc.heap[gb168]? = some (.cells #[.int .i64 a0_0, .int .u64 a0_1] 24 (0, 0))) ∧ Aside0 (wc.heap[gb172]? = some (.cells #[.int .i64 t170, .int .u64 t171] 24 (0, 0))) ∧ Aside0 (Below w.heap.size w wc))
    case first => as_aux_lemma =>
      have H := HC7.out
      clear HC7
      by_cases c17 : t174 = true
      · subst c17
        have H1 : (if t176 = true then (massiflaw03_PlacePostorder.j0 k t173 (t175 != t170) t170 t171) else (massiflaw03_PlacePostorder.j0 k t173 true t170 t171)) = some r := by rw [if_pos rfl] at H; exact H
        clear H
        have H := H1
        clear H1
        by_cases c18 : t176 = true
        · subst c18
          have H1 : (massiflaw03_PlacePostorder.j0 k t173 (t175 != t170) t170 t171) = some r := by rw [if_pos rfl] at H; exact H
          clear H
          have H := H1
          clear H1
          have H' := Aside0.mk H
          clear H
          have hnb19 := NB172_168.out
          have hnc19 := NB168_172.out
          have hcz20_0 : w16.cell? ⟨gb172, 0, none⟩ = some (.int .i64 t170) := (blk_cell BK172.out 0).trans rfl
          have hcz20_1 : w16.cell? ⟨gb172, 1, none⟩ = some (.int .u64 t171) := (blk_cell BK172.out 1).trans rfl
          have hfz20_0 := blk_frozen BK172.out 0
          have hfz20_1 := blk_frozen BK172.out 1
          go_wp2
          go_meet
          case rel => exact ⟨_, ((t175 != t170)), (by first | rfl | (simp; done) | (simp [*]; done)), H', ⟨by first | omega | exact Nat.le_refl _⟩, ⟨by (with_reducible repeat (first | refine blk_drewN ?_ _ | refine blk_drew ?_ | refine blk_alloc ?_ _)); exact BK168.out⟩, ⟨by (with_reducible repeat (first | refine blk_drewN ?_ _ | refine blk_drew ?_ | refine blk_alloc ?_ _)); exact BK172.out⟩, ⟨by repeat (first | (with_reducible first | exact HB.out | apply below_alloc | apply pw_below_drewN | apply below_drew1 | refine below_set ?_ GE168.out | refine below_set ?_ GE172.out) | exact HB.out)⟩⟩
        · replace c18 := Bool.eq_false_iff.mpr c18
          subst c18
          have H1 : (massiflaw03_PlacePostorder.j0 k t173 true t170 t171) = some r := by rw [if_neg (show ¬ (false = true) by decide)] at H; exact H
          clear H
          have H := H1
          clear H1
          have H' := Aside0.mk H
          clear H
          go_wp2
          go_meet
          case rel => exact ⟨_, (true), (by first | rfl | (simp; done) | (simp [*]; done)), H', ⟨by first | omega | exact Nat.le_refl _⟩, ⟨by (with_reducible repeat (first | refine blk_drewN ?_ _ | refine blk_drew ?_ | refine blk_alloc ?_ _)); exact BK168.out⟩, ⟨by (with_reducible repeat (first | refine blk_drewN ?_ _ | refine blk_drew ?_ | refine blk_alloc ?_ _)); exact BK172.out⟩, ⟨by repeat (first | (with_reducible first | exact HB.out | apply below_alloc | apply pw_below_drewN | apply below_drew1 | refine below_set ?_ GE168.out | refine below_set ?_ GE172.out) | exact HB.out)⟩⟩
      · replace c17 := Bool.eq_false_iff.mpr c17
        subst c17
        have H1 : (massiflaw03_PlacePostorder.j0 k t173 true t170 t171) = some r := by rw [if_neg (show ¬ (false = true) by decide)] at H; exact H
        clear H
        have H := H1
        clear H1
        have H' := Aside0.mk H
        clear H
        go_wp2
        go_meet
        case rel => exact ⟨_, (true), (by first | rfl | (simp; done) | (simp [*]; done)), H', ⟨by first | omega | exact Nat.le_refl _⟩, ⟨by (with_reducible repeat (first | refine blk_drewN ?_ _ | refine blk_drew ?_ | refine blk_alloc ?_ _)); exact BK168.out⟩, ⟨by (with_reducible repeat (first | refine blk_drewN ?_ _ | refine blk_drew ?_ | refine blk_alloc ?_ _)); exact BK172.out⟩, ⟨by repeat (first | (with_reducible first | exact HB.out | apply below_alloc | apply pw_below_drewN | apply below_drew1 | refine below_set ?_ GE168.out | refine below_set ?_ GE172.out) | exact HB.out)⟩⟩
    case rest => as_aux_lemma =>
      clear HC7
      try clear c1
      try clear c2
      try clear p2
      try clear c3
      try clear c6
      try clear c11
      try clear c13
      try clear c16
      try clear c17
      try clear c18
      try clear c19
      try clear hcz10_0
      try clear hcz10_1
      try clear hcz14_0
      try clear hcz14_1
      try clear hcz20_0
      try clear hcz20_1
      try clear hfz10_0
      try clear hfz10_1
      try clear hfz14_0
      try clear hfz14_1
      try clear hfz20_0
      try clear hfz20_1
      obtain ⟨kq, x54_6, rfl, HA, HJ6, BK168, BK172, HB⟩ := hcut
      cases kq with
      | zero => exact absurd HA.out (by simp [massiflaw03_PlacePostorder.j0])
      | succ kj6 =>
        have H := HA.out
        clear HA
        simp only [massiflaw03_PlacePostorder.j0] at H
        by_cases c21 : x54_6 = true
        · subst c21
          have H1 : (some false) = some r := by rw [if_pos rfl] at H; exact H
          clear H
          have H := H1
          clear H1
          obtain rfl := Option.some.inj H
          go_wp2
          go_ret
          exact ⟨by first | rfl | (simp [errW_none, errW_some] <;> rfl) | (simp [*, errW_none, errW_some] <;> rfl), by repeat (first | (with_reducible first | exact HB.out | apply below_alloc | apply pw_below_drewN | apply below_drew1 | refine below_set ?_ GE168.out | refine below_set ?_ GE172.out) | exact HB.out)⟩
        · replace c21 := Bool.eq_false_iff.mpr c21
          subst c21
          have H1 : (if 0 ≤ (IntKind.u64.wrap (t170)) then ((place_Block.f kj6 (IntKind.u64.wrap (t173 - (IntKind.u64.wrap ((shl .u64 2 (IntKind.u64.wrap (t170))) - 2))))).bind fun bt177 => ((place_Leaf.f kj6 (shl .u64 t171 (IntKind.u64.wrap (t170)))).bind fun bt181 => (if bt177.2.2 = true then (if bt181.2 = true then (if (!(bt177.1 == 0) || (!(bt177.2.1 == (shl .u64 t171 (IntKind.u64.wrap (t170)))))) = true then (massiflaw03_PlacePostorder.j1 kj6 t173 true t170 t171) else (massiflaw03_PlacePostorder.j1 kj6 t173 (bt181.1 != (IntKind.u64.wrap (t173 - (IntKind.u64.wrap ((shl .u64 2 (IntKind.u64.wrap (t170))) - 2))))) t170 t171)) else (massiflaw03_PlacePostorder.j1 kj6 t173 true t170 t171)) else (massiflaw03_PlacePostorder.j1 kj6 t173 true t170 t171)))) else (none)) = some r := by rw [if_neg (show ¬ (false = true) by decide)] at H; exact H
          clear H
          have H := H1
          clear H1
          obtain ⟨ji22, hji22⟩ : ∃ j_ : Int, (IntKind.u64.wrap (t170)) = j_ := ⟨_, rfl⟩
          replace H : (if 0 ≤ (ji22) then ((place_Block.f kj6 (IntKind.u64.wrap (t173 - (IntKind.u64.wrap ((shl .u64 2 (ji22)) - 2))))).bind fun bt177 => ((place_Leaf.f kj6 (shl .u64 t171 (ji22))).bind fun bt181 => (if bt177.2.2 = true then (if bt181.2 = true then (if (!(bt177.1 == 0) || (!(bt177.2.1 == (shl .u64 t171 (ji22))))) = true then (massiflaw03_PlacePostorder.j1 kj6 t173 true t170 t171) else (massiflaw03_PlacePostorder.j1 kj6 t173 (bt181.1 != (IntKind.u64.wrap (t173 - (IntKind.u64.wrap ((shl .u64 2 (ji22)) - 2))))) t170 t171)) else (massiflaw03_PlacePostorder.j1 kj6 t173 true t170 t171)) else (massiflaw03_PlacePostorder.j1 kj6 t173 true t170 t171)))) else (none)) = some r := by first | (rw [hji22] at H; exact H) | (simp only [hji22] at H ⊢; exact H)
          by_cases c23 : 0 ≤ (ji22)
          · rw [if_pos c23] at H
            have c23b0 := eq_true c23
            have c23b1 : decide (0 ≤ (ji22)) = true := decide_eq_true c23
            clear c23
            obtain ⟨ji24, hji24⟩ : ∃ j_ : Int, (shl .u64 2 (ji22)) = j_ := ⟨_, rfl⟩
            replace H : ((place_Block.f kj6 (IntKind.u64.wrap (t173 - (IntKind.u64.wrap ((ji24) - 2))))).bind fun bt177 => ((place_Leaf.f kj6 (shl .u64 t171 (ji22))).bind fun bt181 => (if bt177.2.2 = true then (if bt181.2 = true then (if (!(bt177.1 == 0) || (!(bt177.2.1 == (shl .u64 t171 (ji22))))) = true then (massiflaw03_PlacePostorder.j1 kj6 t173 true t170 t171) else (massiflaw03_PlacePostorder.j1 kj6 t173 (bt181.1 != (IntKind.u64.wrap (t173 - (IntKind.u64.wrap ((ji24) - 2))))) t170 t171)) else (massiflaw03_PlacePostorder.j1 kj6 t173 true t170 t171)) else (massiflaw03_PlacePostorder.j1 kj6 t173 true t170 t171)))) = some r := by first | (rw [hji24] at H; exact H) | (simp only [hji24] at H ⊢; exact H)
            have hji24_ : (IntKind.u64.wrap (2 * 2 ^ min (ji22).toNat 64)) = ji24 := hji24
            have hji24z : (ji22) ≤ 64 → (IntKind.u64.wrap (2 * 2 ^ (ji22).toNat)) = ji24 := shl_small hji24
            replace H := Option.bind_eq_some_iff.mp H
            obtain ⟨⟨t177, t178, t179⟩, A250, H⟩ := H
            replace H : ((place_Leaf.f kj6 (shl .u64 t171 (ji22))).bind fun bt181 => (if t179 = true then (if bt181.2 = true then (if (!(t177 == 0) || (!(t178 == (shl .u64 t171 (ji22))))) = true then (massiflaw03_PlacePostorder.j1 kj6 t173 true t170 t171) else (massiflaw03_PlacePostorder.j1 kj6 t173 (bt181.1 != (IntKind.u64.wrap (t173 - (IntKind.u64.wrap ((ji24) - 2))))) t170 t171)) else (massiflaw03_PlacePostorder.j1 kj6 t173 true t170 t171)) else (massiflaw03_PlacePostorder.j1 kj6 t173 true t170 t171))) = some r := H
            have A25 := Aside0.mk A250
            clear A250
            have c26b0 := eq_true (of_decide_eq_true (by first | (with_reducible assumption) | assumption) : 0 ≤ (ji22))
            obtain ⟨ji27, hji27⟩ : ∃ j_ : Int, (shl .u64 t171 (ji22)) = j_ := ⟨_, rfl⟩
            replace H : ((place_Leaf.f kj6 (ji27)).bind fun bt181 => (if t179 = true then (if bt181.2 = true then (if (!(t177 == 0) || (!(t178 == (ji27)))) = true then (massiflaw03_PlacePostorder.j1 kj6 t173 true t170 t171) else (massiflaw03_PlacePostorder.j1 kj6 t173 (bt181.1 != (IntKind.u64.wrap (t173 - (IntKind.u64.wrap ((ji24) - 2))))) t170 t171)) else (massiflaw03_PlacePostorder.j1 kj6 t173 true t170 t171)) else (massiflaw03_PlacePostorder.j1 kj6 t173 true t170 t171))) = some r := by first | (rw [hji27] at H; exact H) | (simp only [hji27] at H ⊢; exact H)
            (try rw [hji27] at A25)
            have hji27_ : (IntKind.u64.wrap (t171 * 2 ^ min (ji22).toNat 64)) = ji27 := hji27
            have hji27z : (ji22) ≤ 64 → (IntKind.u64.wrap (t171 * 2 ^ (ji22).toNat)) = ji27 := shl_small hji27
            replace H := Option.bind_eq_some_iff.mp H
            obtain ⟨⟨t181, t182⟩, A280, H⟩ := H
            replace H : (if t179 = true then (if t182 = true then (if (!(t177 == 0) || (!(t178 == (ji27)))) = true then (massiflaw03_PlacePostorder.j1 kj6 t173 true t170 t171) else (massiflaw03_PlacePostorder.j1 kj6 t173 (t181 != (IntKind.u64.wrap (t173 - (IntKind.u64.wrap ((ji24) - 2))))) t170 t171)) else (massiflaw03_PlacePostorder.j1 kj6 t173 true t170 t171)) else (massiflaw03_PlacePostorder.j1 kj6 t173 true t170 t171)) = some r := H
            have A28 := Aside0.mk A280
            clear A280
            have HC29 := Aside0.mk H
            clear H
            have hnb30 := NB172_168.out
            have hnc30 := NB168_172.out
            have hcz31_0 : wc.cell? ⟨gb172, 0, none⟩ = some (.int .i64 t170) := (blk_cell BK172.out 0).trans rfl
            have hcz31_1 : wc.cell? ⟨gb172, 1, none⟩ = some (.int .u64 t171) := (blk_cell BK172.out 1).trans rfl
            have hfz31_0 := blk_frozen BK172.out 0
            have hfz31_1 := blk_frozen BK172.out 1
            go_upto_region 11 with (first | ((with_reducible refine gate_callee (f := 21) rfl ?_); refine goesL_ (some 64) rfl rfl Try.func21 (by kernel_rfl) rfl #[.int .u64 (IntKind.u64.wrap (t173 - (IntKind.u64.wrap ((ji24) - 2))))] rfl (by (try simp only [List.map_toArray, List.map_cons, List.map_nil]); first | done | (simp only [hji24]; rfl) | rfl | (simp only [List.length_drop, List.length_take]; rfl)) ?_; (with_reducible refine (place_Block.calls kj6 (IntKind.u64.wrap (t173 - (IntKind.u64.wrap ((ji24) - 2)))) t177 t178 t179 _ A25.out).mono ?_); rintro e w32 ⟨rfl, hb⟩; refine ⟨_, rfl, ?_⟩; have n0_ := Aside0.mk (blk_below (g := gb168) (o := .cells #[.int .i64 a0_0, .int .u64 a0_1] 24 (0, 0)) (by (with_reducible repeat (first | refine blk_drewN ?_ _ | refine blk_drew ?_ | refine blk_alloc ?_ _)); exact BK168.out) hb); have n1_ := Aside0.mk (blk_below (g := gb172) (o := .cells #[.int .i64 t170, .int .u64 t171] 24 (0, 0)) (by (with_reducible repeat (first | refine blk_drewN ?_ _ | refine blk_drew ?_ | refine blk_alloc ?_ _)); exact BK172.out) hb); have n2_ := Aside0.mk (below_step (by repeat (first | (with_reducible first | exact HB.out | apply below_alloc | apply pw_below_drewN | apply below_drew1 | refine below_set ?_ GE168.out | refine below_set ?_ GE172.out) | exact HB.out)) hb); clear BK168; clear BK172; clear HB; have BK168 := n0_; have BK172 := n1_; have HB := n2_; clear n0_ n1_ n2_; (try clear hb); (try clear hb2); (try clear hk); (try clear hi)) | ((with_reducible refine gate_dst (N := 9) rfl ?_); refine box_event ?hg (N := 9) ?hd (cs := #[.int .i64 0, .int .u64 0]) (t := 24) ?hr ?_; (case hd => rfl); (case hg => rfl); (case hr => first | (go_simp; done) | (go_simp; rfl)); intro gb180 hg w33 hbox hb; have n0_ := Aside0.mk (blk_below (g := gb168) (o := .cells #[.int .i64 a0_0, .int .u64 a0_1] 24 (0, 0)) (by (with_reducible repeat (first | refine blk_drewN ?_ _ | refine blk_drew ?_ | refine blk_alloc ?_ _)); exact BK168.out) hb); have n1_ := Aside0.mk (blk_below (g := gb172) (o := .cells #[.int .i64 t170, .int .u64 t171] 24 (0, 0)) (by (with_reducible repeat (first | refine blk_drewN ?_ _ | refine blk_drew ?_ | refine blk_alloc ?_ _)); exact BK172.out) hb); have n2_ := Aside0.mk (below_step (by repeat (first | (with_reducible first | exact HB.out | apply below_alloc | apply pw_below_drewN | apply below_drew1 | refine below_set ?_ GE168.out | refine below_set ?_ GE172.out) | exact HB.out)) hb); have n3_ := Aside0.mk (hbox); have n4_ := Aside0.mk ((by rw [hg]; exact (below_size (by repeat (first | (with_reducible first | exact HB.out | apply below_alloc | apply pw_below_drewN | apply below_drew1 | refine below_set ?_ GE168.out | refine below_set ?_ GE172.out) | exact HB.out))) : w.heap.size ≤ gb180)); have n5_ := Aside0.mk ((by rw [hg]; exact (below_size (by repeat (first | (with_reducible first | exact HB.out | apply below_alloc | apply pw_below_drewN | apply below_drew1 | refine below_set ?_ GE168.out | refine below_set ?_ GE172.out) | exact HB.out))) : w.heap.size ≤ gb180)); have n6_ := Aside0.mk ((by rw [hg]; exact Nat.ne_of_lt (blk_lt (g := gb168) (o := .cells #[.int .i64 a0_0, .int .u64 a0_1] 24 (0, 0)) (by (with_reducible repeat (first | refine blk_drewN ?_ _ | refine blk_drew ?_ | refine blk_alloc ?_ _)); exact BK168.out)) : gb168 ≠ gb180)); have n7_ := Aside0.mk ((by rw [hg]; exact Nat.ne_of_gt (blk_lt (g := gb168) (o := .cells #[.int .i64 a0_0, .int .u64 a0_1] 24 (0, 0)) (by (with_reducible repeat (first | refine blk_drewN ?_ _ | refine blk_drew ?_ | refine blk_alloc ?_ _)); exact BK168.out)) : gb180 ≠ gb168)); have n8_ := Aside0.mk ((by rw [hg]; exact Nat.ne_of_lt (blk_lt (g := gb172) (o := .cells #[.int .i64 t170, .int .u64 t171] 24 (0, 0)) (by (with_reducible repeat (first | refine blk_drewN ?_ _ | refine blk_drew ?_ | refine blk_alloc ?_ _)); exact BK172.out)) : gb172 ≠ gb180)); have n9_ := Aside0.mk ((by rw [hg]; exact Nat.ne_of_gt (blk_lt (g := gb172) (o := .cells #[.int .i64 t170, .int .u64 t171] 24 (0, 0)) (by (with_reducible repeat (first | refine blk_drewN ?_ _ | refine blk_drew ?_ | refine blk_alloc ?_ _)); exact BK172.out)) : gb180 ≠ gb172)); clear BK168; clear BK172; clear HB; have BK168 := n0_; have BK172 := n1_; have HB := n2_; have BK180 := n3_; have GW180 := n4_; have GE180 := n5_; have NB168_180 := n6_; have NB180_168 := n7_; have NB172_180 := n8_; have NB180_172 := n9_; clear n0_ n1_ n2_ n3_ n4_ n5_ n6_ n7_ n8_ n9_; clear hb hbox hg; have hnb34 := NB180_168.out; have hnc34 := NB168_180.out; have hnb35 := NB180_172.out; have hnc35 := NB172_180.out; have hcz36_0 : w33.cell? ⟨gb180, 0, none⟩ = some (.int .i64 0) := (blk_cell BK180.out 0).trans rfl; have hcz36_1 : w33.cell? ⟨gb180, 1, none⟩ = some (.int .u64 0) := (blk_cell BK180.out 1).trans rfl; have hfz36_0 := blk_frozen BK180.out 0; have hfz36_1 := blk_frozen BK180.out 1; have hcz37_0 : w33.cell? ⟨gb172, 0, none⟩ = some (.int .i64 t170) := (blk_cell BK172.out 0).trans rfl; have hcz37_1 : w33.cell? ⟨gb172, 1, none⟩ = some (.int .u64 t171) := (blk_cell BK172.out 1).trans rfl; have hfz37_0 := blk_frozen BK172.out 0; have hfz37_1 := blk_frozen BK172.out 1) | ((with_reducible refine gate_callee (f := 14) rfl ?_); refine goesL_ (some 74) rfl rfl Try.func14 (by kernel_rfl) rfl #[.int .u64 ji27] rfl (by (try simp only [List.map_toArray, List.map_cons, List.map_nil]); first | done | (simp only [hji27]; rfl) | rfl | (simp only [List.length_drop, List.length_take]; rfl)) ?_; (with_reducible refine (place_Leaf.calls kj6 ji27 t181 t182 _ A28.out).mono ?_); rintro e w' ⟨rfl, ⟨nd, rfl⟩⟩; refine ⟨_, rfl, ?_⟩))
            (try simp only [Act.put, List.setIfInBounds_toArray, List.set_cons_zero, List.set_cons_succ])
            go_cut [98] (fun v98 wc => ∃ (kq : Nat) (x98_28 : Bool), v98 = .bool x98_28 ∧ Aside0 (massiflaw03_PlacePostorder.j1 kq t173 x98_28 t170 t171 = some r) ∧ Aside0 (kq ≤ kj6) ∧ Aside0 (wc.heap[gb168]? = some (.cells #[.int .i64 a0_0, .int .u64 a0_1] 24 (0, 0))) ∧ Aside0 (wc.heap[gb172]? = some (.cells #[.int .i64 t170, .int .u64 t171] 24 (0, 0))) ∧ Aside0 (wc.heap[gb180]? = some (.cells #[.int .i64 t177, .int .u64 t178] 24 (0, 0))) ∧ Aside0 (Below w.heap.size w wc))
            case first => as_aux_lemma =>
              have H := HC29.out
              clear HC29
              by_cases c38 : t179 = true
              · subst c38
                have H1 : (if t182 = true then (if (!(t177 == 0) || (!(t178 == (ji27)))) = true then (massiflaw03_PlacePostorder.j1 kj6 t173 true t170 t171) else (massiflaw03_PlacePostorder.j1 kj6 t173 (t181 != (IntKind.u64.wrap (t173 - (IntKind.u64.wrap ((ji24) - 2))))) t170 t171)) else (massiflaw03_PlacePostorder.j1 kj6 t173 true t170 t171)) = some r := by rw [if_pos rfl] at H; exact H
                clear H
                have H := H1
                clear H1
                by_cases c39 : t182 = true
                · subst c39
                  have H1 : (if (!(t177 == 0) || (!(t178 == (ji27)))) = true then (massiflaw03_PlacePostorder.j1 kj6 t173 true t170 t171) else (massiflaw03_PlacePostorder.j1 kj6 t173 (t181 != (IntKind.u64.wrap (t173 - (IntKind.u64.wrap ((ji24) - 2))))) t170 t171)) = some r := by rw [if_pos rfl] at H; exact H
                  clear H
                  have H := H1
                  clear H1
                  have c40b0 := eq_true (of_decide_eq_true (by first | (with_reducible assumption) | assumption) : 0 ≤ (ji22))
                  by_cases c41 : (!(t177 == 0) || (!(t178 == (ji27)))) = true
                  · rw [if_pos c41] at H
                    have c41b0 : (!(t177 == 0) || (!(t178 == (ji27)))) = true := c41
                    clear c41
                    (first | rw [c41b0] | (simp only [i64_w, i32_w]; rw [c41b0]) | skip)
                    have H' := Aside0.mk H
                    clear H
                    have hnb42 := NB180_168.out
                    have hnc42 := NB168_180.out
                    have hnb43 := NB180_172.out
                    have hnc43 := NB172_180.out
                    have hcz44_0 : w33.cell? ⟨gb180, 0, none⟩ = some (.int .i64 0) := (blk_cell BK180.out 0).trans rfl
                    have hcz44_1 : w33.cell? ⟨gb180, 1, none⟩ = some (.int .u64 0) := (blk_cell BK180.out 1).trans rfl
                    have hfz44_0 := blk_frozen BK180.out 0
                    have hfz44_1 := blk_frozen BK180.out 1
                    have hnb45 := NB172_168.out
                    have hnc45 := NB168_172.out
                    have hcz46_0 : w33.cell? ⟨gb172, 0, none⟩ = some (.int .i64 t170) := (blk_cell BK172.out 0).trans rfl
                    have hcz46_1 : w33.cell? ⟨gb172, 1, none⟩ = some (.int .u64 t171) := (blk_cell BK172.out 1).trans rfl
                    have hfz46_0 := blk_frozen BK172.out 0
                    have hfz46_1 := blk_frozen BK172.out 1
                    go_wp2
                    go_meet
                    case rel => exact ⟨_, (true), (by first | rfl | (simp; done) | (simp [*]; done)), H', ⟨by have := HJ6.out; first | omega | exact Nat.le_refl _⟩, ⟨by (with_reducible repeat (first | refine blk_drewN ?_ _ | refine blk_drew ?_ | refine blk_alloc ?_ _)); refine blk_far ?_ NB168_180.out _; (with_reducible repeat (first | refine blk_drewN ?_ _ | refine blk_drew ?_ | refine blk_alloc ?_ _)); refine blk_far ?_ NB168_180.out _; (with_reducible repeat (first | refine blk_drewN ?_ _ | refine blk_drew ?_ | refine blk_alloc ?_ _)); exact BK168.out⟩, ⟨by (with_reducible repeat (first | refine blk_drewN ?_ _ | refine blk_drew ?_ | refine blk_alloc ?_ _)); refine blk_far ?_ NB172_180.out _; (with_reducible repeat (first | refine blk_drewN ?_ _ | refine blk_drew ?_ | refine blk_alloc ?_ _)); refine blk_far ?_ NB172_180.out _; (with_reducible repeat (first | refine blk_drewN ?_ _ | refine blk_drew ?_ | refine blk_alloc ?_ _)); exact BK172.out⟩, ⟨by (with_reducible repeat (first | refine blk_drewN ?_ _ | refine blk_drew ?_ | refine blk_alloc ?_ _)); refine blk_put (cs := #[.int .i64 t177, .int .u64 0]) ?_ 1 _ rfl; (with_reducible repeat (first | refine blk_drewN ?_ _ | refine blk_drew ?_ | refine blk_alloc ?_ _)); refine blk_put (cs := #[.int .i64 0, .int .u64 0]) ?_ 0 _ rfl; (with_reducible repeat (first | refine blk_drewN ?_ _ | refine blk_drew ?_ | refine blk_alloc ?_ _)); exact BK180.out⟩, ⟨by repeat (first | (with_reducible first | exact HB.out | apply below_alloc | apply pw_below_drewN | apply below_drew1 | refine below_set ?_ GE168.out | refine below_set ?_ GE172.out | refine below_set ?_ GE180.out) | exact HB.out)⟩⟩
                  · rw [if_neg c41] at H
                    have c41b0 : (!(t177 == 0) || (!(t178 == (ji27)))) = false := by simpa using c41
                    clear c41
                    (first | rw [c41b0] | (simp only [i64_w, i32_w]; rw [c41b0]) | skip)
                    have H' := Aside0.mk H
                    clear H
                    have hnb47 := NB180_168.out
                    have hnc47 := NB168_180.out
                    have hnb48 := NB180_172.out
                    have hnc48 := NB172_180.out
                    have hcz49_0 : w33.cell? ⟨gb180, 0, none⟩ = some (.int .i64 0) := (blk_cell BK180.out 0).trans rfl
                    have hcz49_1 : w33.cell? ⟨gb180, 1, none⟩ = some (.int .u64 0) := (blk_cell BK180.out 1).trans rfl
                    have hfz49_0 := blk_frozen BK180.out 0
                    have hfz49_1 := blk_frozen BK180.out 1
                    have hnb50 := NB172_168.out
                    have hnc50 := NB168_172.out
                    have hcz51_0 : w33.cell? ⟨gb172, 0, none⟩ = some (.int .i64 t170) := (blk_cell BK172.out 0).trans rfl
                    have hcz51_1 : w33.cell? ⟨gb172, 1, none⟩ = some (.int .u64 t171) := (blk_cell BK172.out 1).trans rfl
                    have hfz51_0 := blk_frozen BK172.out 0
                    have hfz51_1 := blk_frozen BK172.out 1
                    go_wp2
                    go_meet
                    case rel => exact ⟨_, ((t181 != (IntKind.u64.wrap (t173 - (IntKind.u64.wrap ((ji24) - 2)))))), (by first | rfl | (simp; done) | (simp only [← hji24] <;> (first | rfl | simp)) | (simp [*]; done)), H', ⟨by have := HJ6.out; first | omega | exact Nat.le_refl _⟩, ⟨by (with_reducible repeat (first | refine blk_drewN ?_ _ | refine blk_drew ?_ | refine blk_alloc ?_ _)); refine blk_far ?_ NB168_180.out _; (with_reducible repeat (first | refine blk_drewN ?_ _ | refine blk_drew ?_ | refine blk_alloc ?_ _)); refine blk_far ?_ NB168_180.out _; (with_reducible repeat (first | refine blk_drewN ?_ _ | refine blk_drew ?_ | refine blk_alloc ?_ _)); exact BK168.out⟩, ⟨by (with_reducible repeat (first | refine blk_drewN ?_ _ | refine blk_drew ?_ | refine blk_alloc ?_ _)); refine blk_far ?_ NB172_180.out _; (with_reducible repeat (first | refine blk_drewN ?_ _ | refine blk_drew ?_ | refine blk_alloc ?_ _)); refine blk_far ?_ NB172_180.out _; (with_reducible repeat (first | refine blk_drewN ?_ _ | refine blk_drew ?_ | refine blk_alloc ?_ _)); exact BK172.out⟩, ⟨by (with_reducible repeat (first | refine blk_drewN ?_ _ | refine blk_drew ?_ | refine blk_alloc ?_ _)); refine blk_put (cs := #[.int .i64 t177, .int .u64 0]) ?_ 1 _ rfl; (with_reducible repeat (first | refine blk_drewN ?_ _ | refine blk_drew ?_ | refine blk_alloc ?_ _)); refine blk_put (cs := #[.int .i64 0, .int .u64 0]) ?_ 0 _ rfl; (with_reducible repeat (first | refine blk_drewN ?_ _ | refine blk_drew ?_ | refine blk_alloc ?_ _)); exact BK180.out⟩, ⟨by repeat (first | (with_reducible first | exact HB.out | apply below_alloc | apply pw_below_drewN | apply below_drew1 | refine below_set ?_ GE168.out | refine below_set ?_ GE172.out | refine below_set ?_ GE180.out) | exact HB.out)⟩⟩
                · replace c39 := Bool.eq_false_iff.mpr c39
                  subst c39
                  have H1 : (massiflaw03_PlacePostorder.j1 kj6 t173 true t170 t171) = some r := by rw [if_neg (show ¬ (false = true) by decide)] at H; exact H
                  clear H
                  have H := H1
                  clear H1
                  have H' := Aside0.mk H
                  clear H
                  go_wp2
                  go_meet
                  case rel => exact ⟨_, (true), (by first | rfl | (simp; done) | (simp [*]; done)), H', ⟨by have := HJ6.out; first | omega | exact Nat.le_refl _⟩, ⟨by (with_reducible repeat (first | refine blk_drewN ?_ _ | refine blk_drew ?_ | refine blk_alloc ?_ _)); refine blk_far ?_ NB168_180.out _; (with_reducible repeat (first | refine blk_drewN ?_ _ | refine blk_drew ?_ | refine blk_alloc ?_ _)); refine blk_far ?_ NB168_180.out _; (with_reducible repeat (first | refine blk_drewN ?_ _ | refine blk_drew ?_ | refine blk_alloc ?_ _)); exact BK168.out⟩, ⟨by (with_reducible repeat (first | refine blk_drewN ?_ _ | refine blk_drew ?_ | refine blk_alloc ?_ _)); refine blk_far ?_ NB172_180.out _; (with_reducible repeat (first | refine blk_drewN ?_ _ | refine blk_drew ?_ | refine blk_alloc ?_ _)); refine blk_far ?_ NB172_180.out _; (with_reducible repeat (first | refine blk_drewN ?_ _ | refine blk_drew ?_ | refine blk_alloc ?_ _)); exact BK172.out⟩, ⟨by (with_reducible repeat (first | refine blk_drewN ?_ _ | refine blk_drew ?_ | refine blk_alloc ?_ _)); refine blk_put (cs := #[.int .i64 t177, .int .u64 0]) ?_ 1 _ rfl; (with_reducible repeat (first | refine blk_drewN ?_ _ | refine blk_drew ?_ | refine blk_alloc ?_ _)); refine blk_put (cs := #[.int .i64 0, .int .u64 0]) ?_ 0 _ rfl; (with_reducible repeat (first | refine blk_drewN ?_ _ | refine blk_drew ?_ | refine blk_alloc ?_ _)); exact BK180.out⟩, ⟨by repeat (first | (with_reducible first | exact HB.out | apply below_alloc | apply pw_below_drewN | apply below_drew1 | refine below_set ?_ GE168.out | refine below_set ?_ GE172.out | refine below_set ?_ GE180.out) | exact HB.out)⟩⟩
              · replace c38 := Bool.eq_false_iff.mpr c38
                subst c38
                have H1 : (massiflaw03_PlacePostorder.j1 kj6 t173 true t170 t171) = some r := by rw [if_neg (show ¬ (false = true) by decide)] at H; exact H
                clear H
                have H := H1
                clear H1
                have H' := Aside0.mk H
                clear H
                go_wp2
                go_meet
                case rel => exact ⟨_, (true), (by first | rfl | (simp; done) | (simp [*]; done)), H', ⟨by have := HJ6.out; first | omega | exact Nat.le_refl _⟩, ⟨by (with_reducible repeat (first | refine blk_drewN ?_ _ | refine blk_drew ?_ | refine blk_alloc ?_ _)); refine blk_far ?_ NB168_180.out _; (with_reducible repeat (first | refine blk_drewN ?_ _ | refine blk_drew ?_ | refine blk_alloc ?_ _)); refine blk_far ?_ NB168_180.out _; (with_reducible repeat (first | refine blk_drewN ?_ _ | refine blk_drew ?_ | refine blk_alloc ?_ _)); exact BK168.out⟩, ⟨by (with_reducible repeat (first | refine blk_drewN ?_ _ | refine blk_drew ?_ | refine blk_alloc ?_ _)); refine blk_far ?_ NB172_180.out _; (with_reducible repeat (first | refine blk_drewN ?_ _ | refine blk_drew ?_ | refine blk_alloc ?_ _)); refine blk_far ?_ NB172_180.out _; (with_reducible repeat (first | refine blk_drewN ?_ _ | refine blk_drew ?_ | refine blk_alloc ?_ _)); exact BK172.out⟩, ⟨by (with_reducible repeat (first | refine blk_drewN ?_ _ | refine blk_drew ?_ | refine blk_alloc ?_ _)); refine blk_put (cs := #[.int .i64 t177, .int .u64 0]) ?_ 1 _ rfl; (with_reducible repeat (first | refine blk_drewN ?_ _ | refine blk_drew ?_ | refine blk_alloc ?_ _)); refine blk_put (cs := #[.int .i64 0, .int .u64 0]) ?_ 0 _ rfl; (with_reducible repeat (first | refine blk_drewN ?_ _ | refine blk_drew ?_ | refine blk_alloc ?_ _)); exact BK180.out⟩, ⟨by repeat (first | (with_reducible first | exact HB.out | apply below_alloc | apply pw_below_drewN | apply below_drew1 | refine below_set ?_ GE168.out | refine below_set ?_ GE172.out | refine below_set ?_ GE180.out) | exact HB.out)⟩⟩
            case rest => as_aux_lemma =>
              clear HC29
              try clear c1
              try clear c2
              try clear p2
              try clear c3
              try clear c4
              try clear c5
              try clear c6
              try clear c11
              try clear c13
              try clear c14
              try clear c16
              try clear c17
              try clear c18
              try clear c19
              try clear c21
              try clear c23
              try clear c23b0
              try clear c23b1
              try clear c26
              try clear c26b0
              try clear c30
              try clear c34
              try clear c35
              try clear c38
              try clear c39
              try clear c40
              try clear c40b0
              try clear c41
              try clear c41b0
              try clear c42
              try clear c43
              try clear c45
              try clear c47
              try clear c48
              try clear c50
              try clear hcz10_0
              try clear hcz10_1
              try clear hcz14_0
              try clear hcz14_1
              try clear hcz20_0
              try clear hcz20_1
              try clear hcz31_0
              try clear hcz31_1
              try clear hcz36_0
              try clear hcz36_1
              try clear hcz37_0
              try clear hcz37_1
              try clear hcz44_0
              try clear hcz44_1
              try clear hcz46_0
              try clear hcz46_1
              try clear hcz49_0
              try clear hcz49_1
              try clear hcz51_0
              try clear hcz51_1
              try clear hfz10_0
              try clear hfz10_1
              try clear hfz14_0
              try clear hfz14_1
              try clear hfz20_0
              try clear hfz20_1
              try clear hfz31_0
              try clear hfz31_1
              try clear hfz36_0
              try clear hfz36_1
              try clear hfz37_0
              try clear hfz37_1
              try clear hfz44_0
              try clear hfz44_1
              try clear hfz46_0
              try clear hfz46_1
              try clear hfz49_0
              try clear hfz49_1
              try clear hfz51_0
              try clear hfz51_1
              try clear p2
              obtain ⟨kq, x98_28, rfl, HA, HJ28, BK168, BK172, BK180, HB⟩ := hcut
              cases kq with
              | zero => exact absurd HA.out (by simp [massiflaw03_PlacePostorder.j1])
              | succ kj28 =>
                have H := HA.out
                clear HA
                simp only [massiflaw03_PlacePostorder.j1] at H
                by_cases c52 : x98_28 = true
                · subst c52
                  have H1 : (some false) = some r := by rw [if_pos rfl] at H; exact H
                  clear H
                  have H := H1
                  clear H1
                  obtain rfl := Option.some.inj H
                  go_wp2
                  go_ret
                  exact ⟨by first | rfl | (simp [errW_none, errW_some] <;> rfl) | (simp only [← hji22, ← hji24, ← hji27]; first | rfl | (simp [errW_none, errW_some] <;> rfl)) | (simp [*, errW_none, errW_some] <;> rfl), by repeat (first | (with_reducible first | exact HB.out | apply below_alloc | apply pw_below_drewN | apply below_drew1 | refine below_set ?_ GE168.out | refine below_set ?_ GE172.out | refine below_set ?_ GE180.out) | exact HB.out)⟩
                · replace c52 := Bool.eq_false_iff.mpr c52
                  subst c52
                  have H1 : (if t170 > 0 then ((place_Of.f kj28 (wrap64 (t170 - 1)) (IntKind.u64.wrap (2 * t171))).bind fun bt183 => ((place_Of.f kj28 (wrap64 (t170 - 1)) (IntKind.u64.wrap ((IntKind.u64.wrap (2 * t171)) + 1))).bind fun bt185 => ((place_Parent.f kj28 bt183.1).bind fun bt187 => ((place_Parent.f kj28 bt185.1).bind fun bt189 => ((place_Sibling.f kj28 bt183.1).bind fun bt191 => ((place_Sibling.f kj28 bt185.1).bind fun bt193 => (if bt183.2 = true then (if bt185.2 = true then (if bt187.2 = true then (if bt189.2 = true then (if bt191.2 = true then (if bt193.2 = true then (if bt185.1 = (IntKind.u64.wrap (t173 - 1)) then (if 0 ≤ (IntKind.u64.wrap (t170)) then (if bt183.1 = (IntKind.u64.wrap (t173 - (shl .u64 1 (IntKind.u64.wrap (t170))))) then (if bt187.1 = t173 then (if bt189.1 = t173 then (if bt191.1 = bt185.1 then (massiflaw03_PlacePostorder.j2 kj28 t173 (bt193.1 != bt183.1) t170 t171) else (massiflaw03_PlacePostorder.j2 kj28 t173 true t170 t171)) else (massiflaw03_PlacePostorder.j2 kj28 t173 true t170 t171)) else (massiflaw03_PlacePostorder.j2 kj28 t173 true t170 t171)) else (massiflaw03_PlacePostorder.j2 kj28 t173 true t170 t171)) else (none)) else (massiflaw03_PlacePostorder.j2 kj28 t173 true t170 t171)) else (massiflaw03_PlacePostorder.j2 kj28 t173 true t170 t171)) else (massiflaw03_PlacePostorder.j2 kj28 t173 true t170 t171)) else (massiflaw03_PlacePostorder.j2 kj28 t173 true t170 t171)) else (massiflaw03_PlacePostorder.j2 kj28 t173 true t170 t171)) else (massiflaw03_PlacePostorder.j2 kj28 t173 true t170 t171)) else (massiflaw03_PlacePostorder.j2 kj28 t173 true t170 t171)))))))) else ((place_Parent.f kj28 t173).bind fun bt199 => ((place_Sibling.f kj28 t173).bind fun bt201 => (if (bt199.2 == (decide (t170 < 40))) = true then (some (bt201.2 == bt199.2)) else (some false))))) = some r := by rw [if_neg (show ¬ (false = true) by decide)] at H; exact H
                  clear H
                  have H := H1
                  clear H1
                  by_cases c53 : t170 > 0
                  · rw [if_pos c53] at H
                    have c53b0 : decide (0 < t170) = true := decide_eq_true c53
                    clear c53
                    replace H := Option.bind_eq_some_iff.mp H
                    obtain ⟨⟨t183, t184⟩, A540, H⟩ := H
                    replace H : ((place_Of.f kj28 (wrap64 (t170 - 1)) (IntKind.u64.wrap ((IntKind.u64.wrap (2 * t171)) + 1))).bind fun bt185 => ((place_Parent.f kj28 t183).bind fun bt187 => ((place_Parent.f kj28 bt185.1).bind fun bt189 => ((place_Sibling.f kj28 t183).bind fun bt191 => ((place_Sibling.f kj28 bt185.1).bind fun bt193 => (if t184 = true then (if bt185.2 = true then (if bt187.2 = true then (if bt189.2 = true then (if bt191.2 = true then (if bt193.2 = true then (if bt185.1 = (IntKind.u64.wrap (t173 - 1)) then (if 0 ≤ (IntKind.u64.wrap (t170)) then (if t183 = (IntKind.u64.wrap (t173 - (shl .u64 1 (IntKind.u64.wrap (t170))))) then (if bt187.1 = t173 then (if bt189.1 = t173 then (if bt191.1 = bt185.1 then (massiflaw03_PlacePostorder.j2 kj28 t173 (bt193.1 != t183) t170 t171) else (massiflaw03_PlacePostorder.j2 kj28 t173 true t170 t171)) else (massiflaw03_PlacePostorder.j2 kj28 t173 true t170 t171)) else (massiflaw03_PlacePostorder.j2 kj28 t173 true t170 t171)) else (massiflaw03_PlacePostorder.j2 kj28 t173 true t170 t171)) else (none)) else (massiflaw03_PlacePostorder.j2 kj28 t173 true t170 t171)) else (massiflaw03_PlacePostorder.j2 kj28 t173 true t170 t171)) else (massiflaw03_PlacePostorder.j2 kj28 t173 true t170 t171)) else (massiflaw03_PlacePostorder.j2 kj28 t173 true t170 t171)) else (massiflaw03_PlacePostorder.j2 kj28 t173 true t170 t171)) else (massiflaw03_PlacePostorder.j2 kj28 t173 true t170 t171)) else (massiflaw03_PlacePostorder.j2 kj28 t173 true t170 t171))))))) = some r := H
                    have A54 := Aside0.mk A540
                    clear A540
                    replace H := Option.bind_eq_some_iff.mp H
                    obtain ⟨⟨t185, t186⟩, A550, H⟩ := H
                    replace H : ((place_Parent.f kj28 t183).bind fun bt187 => ((place_Parent.f kj28 t185).bind fun bt189 => ((place_Sibling.f kj28 t183).bind fun bt191 => ((place_Sibling.f kj28 t185).bind fun bt193 => (if t184 = true then (if t186 = true then (if bt187.2 = true then (if bt189.2 = true then (if bt191.2 = true then (if bt193.2 = true then (if t185 = (IntKind.u64.wrap (t173 - 1)) then (if 0 ≤ (IntKind.u64.wrap (t170)) then (if t183 = (IntKind.u64.wrap (t173 - (shl .u64 1 (IntKind.u64.wrap (t170))))) then (if bt187.1 = t173 then (if bt189.1 = t173 then (if bt191.1 = t185 then (massiflaw03_PlacePostorder.j2 kj28 t173 (bt193.1 != t183) t170 t171) else (massiflaw03_PlacePostorder.j2 kj28 t173 true t170 t171)) else (massiflaw03_PlacePostorder.j2 kj28 t173 true t170 t171)) else (massiflaw03_PlacePostorder.j2 kj28 t173 true t170 t171)) else (massiflaw03_PlacePostorder.j2 kj28 t173 true t170 t171)) else (none)) else (massiflaw03_PlacePostorder.j2 kj28 t173 true t170 t171)) else (massiflaw03_PlacePostorder.j2 kj28 t173 true t170 t171)) else (massiflaw03_PlacePostorder.j2 kj28 t173 true t170 t171)) else (massiflaw03_PlacePostorder.j2 kj28 t173 true t170 t171)) else (massiflaw03_PlacePostorder.j2 kj28 t173 true t170 t171)) else (massiflaw03_PlacePostorder.j2 kj28 t173 true t170 t171)) else (massiflaw03_PlacePostorder.j2 kj28 t173 true t170 t171)))))) = some r := H
                    have A55 := Aside0.mk A550
                    clear A550
                    replace H := Option.bind_eq_some_iff.mp H
                    obtain ⟨⟨t187, t188⟩, A560, H⟩ := H
                    replace H : ((place_Parent.f kj28 t185).bind fun bt189 => ((place_Sibling.f kj28 t183).bind fun bt191 => ((place_Sibling.f kj28 t185).bind fun bt193 => (if t184 = true then (if t186 = true then (if t188 = true then (if bt189.2 = true then (if bt191.2 = true then (if bt193.2 = true then (if t185 = (IntKind.u64.wrap (t173 - 1)) then (if 0 ≤ (IntKind.u64.wrap (t170)) then (if t183 = (IntKind.u64.wrap (t173 - (shl .u64 1 (IntKind.u64.wrap (t170))))) then (if t187 = t173 then (if bt189.1 = t173 then (if bt191.1 = t185 then (massiflaw03_PlacePostorder.j2 kj28 t173 (bt193.1 != t183) t170 t171) else (massiflaw03_PlacePostorder.j2 kj28 t173 true t170 t171)) else (massiflaw03_PlacePostorder.j2 kj28 t173 true t170 t171)) else (massiflaw03_PlacePostorder.j2 kj28 t173 true t170 t171)) else (massiflaw03_PlacePostorder.j2 kj28 t173 true t170 t171)) else (none)) else (massiflaw03_PlacePostorder.j2 kj28 t173 true t170 t171)) else (massiflaw03_PlacePostorder.j2 kj28 t173 true t170 t171)) else (massiflaw03_PlacePostorder.j2 kj28 t173 true t170 t171)) else (massiflaw03_PlacePostorder.j2 kj28 t173 true t170 t171)) else (massiflaw03_PlacePostorder.j2 kj28 t173 true t170 t171)) else (massiflaw03_PlacePostorder.j2 kj28 t173 true t170 t171)) else (massiflaw03_PlacePostorder.j2 kj28 t173 true t170 t171))))) = some r := H
                    have A56 := Aside0.mk A560
                    clear A560
                    replace H := Option.bind_eq_some_iff.mp H
                    obtain ⟨⟨t189, t190⟩, A570, H⟩ := H
                    replace H : ((place_Sibling.f kj28 t183).bind fun bt191 => ((place_Sibling.f kj28 t185).bind fun bt193 => (if t184 = true then (if t186 = true then (if t188 = true then (if t190 = true then (if bt191.2 = true then (if bt193.2 = true then (if t185 = (IntKind.u64.wrap (t173 - 1)) then (if 0 ≤ (IntKind.u64.wrap (t170)) then (if t183 = (IntKind.u64.wrap (t173 - (shl .u64 1 (IntKind.u64.wrap (t170))))) then (if t187 = t173 then (if t189 = t173 then (if bt191.1 = t185 then (massiflaw03_PlacePostorder.j2 kj28 t173 (bt193.1 != t183) t170 t171) else (massiflaw03_PlacePostorder.j2 kj28 t173 true t170 t171)) else (massiflaw03_PlacePostorder.j2 kj28 t173 true t170 t171)) else (massiflaw03_PlacePostorder.j2 kj28 t173 true t170 t171)) else (massiflaw03_PlacePostorder.j2 kj28 t173 true t170 t171)) else (none)) else (massiflaw03_PlacePostorder.j2 kj28 t173 true t170 t171)) else (massiflaw03_PlacePostorder.j2 kj28 t173 true t170 t171)) else (massiflaw03_PlacePostorder.j2 kj28 t173 true t170 t171)) else (massiflaw03_PlacePostorder.j2 kj28 t173 true t170 t171)) else (massiflaw03_PlacePostorder.j2 kj28 t173 true t170 t171)) else (massiflaw03_PlacePostorder.j2 kj28 t173 true t170 t171)) else (massiflaw03_PlacePostorder.j2 kj28 t173 true t170 t171)))) = some r := H
                    have A57 := Aside0.mk A570
                    clear A570
                    replace H := Option.bind_eq_some_iff.mp H
                    obtain ⟨⟨t191, t192⟩, A580, H⟩ := H
                    replace H : ((place_Sibling.f kj28 t185).bind fun bt193 => (if t184 = true then (if t186 = true then (if t188 = true then (if t190 = true then (if t192 = true then (if bt193.2 = true then (if t185 = (IntKind.u64.wrap (t173 - 1)) then (if 0 ≤ (IntKind.u64.wrap (t170)) then (if t183 = (IntKind.u64.wrap (t173 - (shl .u64 1 (IntKind.u64.wrap (t170))))) then (if t187 = t173 then (if t189 = t173 then (if t191 = t185 then (massiflaw03_PlacePostorder.j2 kj28 t173 (bt193.1 != t183) t170 t171) else (massiflaw03_PlacePostorder.j2 kj28 t173 true t170 t171)) else (massiflaw03_PlacePostorder.j2 kj28 t173 true t170 t171)) else (massiflaw03_PlacePostorder.j2 kj28 t173 true t170 t171)) else (massiflaw03_PlacePostorder.j2 kj28 t173 true t170 t171)) else (none)) else (massiflaw03_PlacePostorder.j2 kj28 t173 true t170 t171)) else (massiflaw03_PlacePostorder.j2 kj28 t173 true t170 t171)) else (massiflaw03_PlacePostorder.j2 kj28 t173 true t170 t171)) else (massiflaw03_PlacePostorder.j2 kj28 t173 true t170 t171)) else (massiflaw03_PlacePostorder.j2 kj28 t173 true t170 t171)) else (massiflaw03_PlacePostorder.j2 kj28 t173 true t170 t171)) else (massiflaw03_PlacePostorder.j2 kj28 t173 true t170 t171))) = some r := H
                    have A58 := Aside0.mk A580
                    clear A580
                    replace H := Option.bind_eq_some_iff.mp H
                    obtain ⟨⟨t193, t194⟩, A590, H⟩ := H
                    replace H : (if t184 = true then (if t186 = true then (if t188 = true then (if t190 = true then (if t192 = true then (if t194 = true then (if t185 = (IntKind.u64.wrap (t173 - 1)) then (if 0 ≤ (IntKind.u64.wrap (t170)) then (if t183 = (IntKind.u64.wrap (t173 - (shl .u64 1 (IntKind.u64.wrap (t170))))) then (if t187 = t173 then (if t189 = t173 then (if t191 = t185 then (massiflaw03_PlacePostorder.j2 kj28 t173 (t193 != t183) t170 t171) else (massiflaw03_PlacePostorder.j2 kj28 t173 true t170 t171)) else (massiflaw03_PlacePostorder.j2 kj28 t173 true t170 t171)) else (massiflaw03_PlacePostorder.j2 kj28 t173 true t170 t171)) else (massiflaw03_PlacePostorder.j2 kj28 t173 true t170 t171)) else (none)) else (massiflaw03_PlacePostorder.j2 kj28 t173 true t170 t171)) else (massiflaw03_PlacePostorder.j2 kj28 t173 true t170 t171)) else (massiflaw03_PlacePostorder.j2 kj28 t173 true t170 t171)) else (massiflaw03_PlacePostorder.j2 kj28 t173 true t170 t171)) else (massiflaw03_PlacePostorder.j2 kj28 t173 true t170 t171)) else (massiflaw03_PlacePostorder.j2 kj28 t173 true t170 t171)) else (massiflaw03_PlacePostorder.j2 kj28 t173 true t170 t171)) = some r := H
                    have A59 := Aside0.mk A590
                    clear A590
                    have HC60 := Aside0.mk H
                    clear H
                    have hnb61 := NB172_168.out
                    have hnc61 := NB168_172.out
                    have hnb62 := NB172_180.out
                    have hnc62 := NB180_172.out
                    have hcz63_0 : wc.cell? ⟨gb172, 0, none⟩ = some (.int .i64 t170) := (blk_cell BK172.out 0).trans rfl
                    have hcz63_1 : wc.cell? ⟨gb172, 1, none⟩ = some (.int .u64 t171) := (blk_cell BK172.out 1).trans rfl
                    have hfz63_0 := blk_frozen BK172.out 0
                    have hfz63_1 := blk_frozen BK172.out 1
                    go_upto_region 20 with (first | ((with_reducible refine gate_callee (f := 16) rfl ?_); refine goesL_ (some 110) rfl rfl Try.func16 (by kernel_rfl) rfl #[.agg #[.int .i64 (wrap64 (t170 - 1)), .int .u64 (IntKind.u64.wrap (2 * t171))]] rfl (by (try simp only [List.map_toArray, List.map_cons, List.map_nil]); first | done | rfl | (simp only [List.length_drop, List.length_take]; rfl)) ?_; (with_reducible refine (place_Of.calls kj28 (wrap64 (t170 - 1)) (IntKind.u64.wrap (2 * t171)) t183 t184 _ A54.out).mono ?_); rintro e w64 ⟨rfl, hb⟩; refine ⟨_, rfl, ?_⟩; have n0_ := Aside0.mk (blk_below (g := gb168) (o := .cells #[.int .i64 a0_0, .int .u64 a0_1] 24 (0, 0)) (by (with_reducible repeat (first | refine blk_drewN ?_ _ | refine blk_drew ?_ | refine blk_alloc ?_ _)); exact BK168.out) hb); have n1_ := Aside0.mk (blk_below (g := gb172) (o := .cells #[.int .i64 t170, .int .u64 t171] 24 (0, 0)) (by (with_reducible repeat (first | refine blk_drewN ?_ _ | refine blk_drew ?_ | refine blk_alloc ?_ _)); exact BK172.out) hb); have n2_ := Aside0.mk (blk_below (g := gb180) (o := .cells #[.int .i64 t177, .int .u64 t178] 24 (0, 0)) (by (with_reducible repeat (first | refine blk_drewN ?_ _ | refine blk_drew ?_ | refine blk_alloc ?_ _)); exact BK180.out) hb); have n3_ := Aside0.mk (below_step (by repeat (first | (with_reducible first | exact HB.out | apply below_alloc | apply pw_below_drewN | apply below_drew1 | refine below_set ?_ GE168.out | refine below_set ?_ GE172.out | refine below_set ?_ GE180.out) | exact HB.out)) hb); clear BK168; clear BK172; clear BK180; clear HB; have BK168 := n0_; have BK172 := n1_; have BK180 := n2_; have HB := n3_; clear n0_ n1_ n2_ n3_; (try clear hb); (try clear hb2); (try clear hk); (try clear hi); have hcz65_0 : w64.cell? ⟨gb172, 0, none⟩ = some (.int .i64 t170) := (blk_cell BK172.out 0).trans rfl; have hcz65_1 : w64.cell? ⟨gb172, 1, none⟩ = some (.int .u64 t171) := (blk_cell BK172.out 1).trans rfl; have hfz65_0 := blk_frozen BK172.out 0; have hfz65_1 := blk_frozen BK172.out 1) | ((with_reducible refine gate_callee (f := 16) rfl ?_); refine goesL_ (some 122) rfl rfl Try.func16 (by kernel_rfl) rfl #[.agg #[.int .i64 (wrap64 (t170 - 1)), .int .u64 (IntKind.u64.wrap ((IntKind.u64.wrap (2 * t171)) + 1))]] rfl (by (try simp only [List.map_toArray, List.map_cons, List.map_nil]); first | done | rfl | (simp only [List.length_drop, List.length_take]; rfl)) ?_; (with_reducible refine (place_Of.calls kj28 (wrap64 (t170 - 1)) (IntKind.u64.wrap ((IntKind.u64.wrap (2 * t171)) + 1)) t185 t186 _ A55.out).mono ?_); rintro e w66 ⟨rfl, hb⟩; refine ⟨_, rfl, ?_⟩; have n0_ := Aside0.mk (blk_below (g := gb168) (o := .cells #[.int .i64 a0_0, .int .u64 a0_1] 24 (0, 0)) (by (with_reducible repeat (first | refine blk_drewN ?_ _ | refine blk_drew ?_ | refine blk_alloc ?_ _)); exact BK168.out) hb); have n1_ := Aside0.mk (blk_below (g := gb172) (o := .cells #[.int .i64 t170, .int .u64 t171] 24 (0, 0)) (by (with_reducible repeat (first | refine blk_drewN ?_ _ | refine blk_drew ?_ | refine blk_alloc ?_ _)); exact BK172.out) hb); have n2_ := Aside0.mk (blk_below (g := gb180) (o := .cells #[.int .i64 t177, .int .u64 t178] 24 (0, 0)) (by (with_reducible repeat (first | refine blk_drewN ?_ _ | refine blk_drew ?_ | refine blk_alloc ?_ _)); exact BK180.out) hb); have n3_ := Aside0.mk (below_step (by repeat (first | (with_reducible first | exact HB.out | apply below_alloc | apply pw_below_drewN | apply below_drew1 | refine below_set ?_ GE168.out | refine below_set ?_ GE172.out | refine below_set ?_ GE180.out) | exact HB.out)) hb); clear BK168; clear BK172; clear BK180; clear HB; have BK168 := n0_; have BK172 := n1_; have BK180 := n2_; have HB := n3_; clear n0_ n1_ n2_ n3_; (try clear hb); (try clear hb2); (try clear hk); (try clear hi)) | ((with_reducible refine gate_callee (f := 25) rfl ?_); refine goesL_ (some 127) rfl rfl Try.func25 (by kernel_rfl) rfl #[.int .u64 t183] rfl (by (try simp only [List.map_toArray, List.map_cons, List.map_nil]); first | done | rfl | (simp only [List.length_drop, List.length_take]; rfl)) ?_; (with_reducible refine (place_Parent.calls kj28 t183 t187 t188 _ A56.out).mono ?_); rintro e w67 ⟨rfl, hb⟩; refine ⟨_, rfl, ?_⟩; have n0_ := Aside0.mk (blk_below (g := gb168) (o := .cells #[.int .i64 a0_0, .int .u64 a0_1] 24 (0, 0)) (by (with_reducible repeat (first | refine blk_drewN ?_ _ | refine blk_drew ?_ | refine blk_alloc ?_ _)); exact BK168.out) hb); have n1_ := Aside0.mk (blk_below (g := gb172) (o := .cells #[.int .i64 t170, .int .u64 t171] 24 (0, 0)) (by (with_reducible repeat (first | refine blk_drewN ?_ _ | refine blk_drew ?_ | refine blk_alloc ?_ _)); exact BK172.out) hb); have n2_ := Aside0.mk (blk_below (g := gb180) (o := .cells #[.int .i64 t177, .int .u64 t178] 24 (0, 0)) (by (with_reducible repeat (first | refine blk_drewN ?_ _ | refine blk_drew ?_ | refine blk_alloc ?_ _)); exact BK180.out) hb); have n3_ := Aside0.mk (below_step (by repeat (first | (with_reducible first | exact HB.out | apply below_alloc | apply pw_below_drewN | apply below_drew1 | refine below_set ?_ GE168.out | refine below_set ?_ GE172.out | refine below_set ?_ GE180.out) | exact HB.out)) hb); clear BK168; clear BK172; clear BK180; clear HB; have BK168 := n0_; have BK172 := n1_; have BK180 := n2_; have HB := n3_; clear n0_ n1_ n2_ n3_; (try clear hb); (try clear hb2); (try clear hk); (try clear hi)) | ((with_reducible refine gate_callee (f := 25) rfl ?_); refine goesL_ (some 132) rfl rfl Try.func25 (by kernel_rfl) rfl #[.int .u64 t185] rfl (by (try simp only [List.map_toArray, List.map_cons, List.map_nil]); first | done | rfl | (simp only [List.length_drop, List.length_take]; rfl)) ?_; (with_reducible refine (place_Parent.calls kj28 t185 t189 t190 _ A57.out).mono ?_); rintro e w68 ⟨rfl, hb⟩; refine ⟨_, rfl, ?_⟩; have n0_ := Aside0.mk (blk_below (g := gb168) (o := .cells #[.int .i64 a0_0, .int .u64 a0_1] 24 (0, 0)) (by (with_reducible repeat (first | refine blk_drewN ?_ _ | refine blk_drew ?_ | refine blk_alloc ?_ _)); exact BK168.out) hb); have n1_ := Aside0.mk (blk_below (g := gb172) (o := .cells #[.int .i64 t170, .int .u64 t171] 24 (0, 0)) (by (with_reducible repeat (first | refine blk_drewN ?_ _ | refine blk_drew ?_ | refine blk_alloc ?_ _)); exact BK172.out) hb); have n2_ := Aside0.mk (blk_below (g := gb180) (o := .cells #[.int .i64 t177, .int .u64 t178] 24 (0, 0)) (by (with_reducible repeat (first | refine blk_drewN ?_ _ | refine blk_drew ?_ | refine blk_alloc ?_ _)); exact BK180.out) hb); have n3_ := Aside0.mk (below_step (by repeat (first | (with_reducible first | exact HB.out | apply below_alloc | apply pw_below_drewN | apply below_drew1 | refine below_set ?_ GE168.out | refine below_set ?_ GE172.out | refine below_set ?_ GE180.out) | exact HB.out)) hb); clear BK168; clear BK172; clear BK180; clear HB; have BK168 := n0_; have BK172 := n1_; have BK180 := n2_; have HB := n3_; clear n0_ n1_ n2_ n3_; (try clear hb); (try clear hb2); (try clear hk); (try clear hi)) | ((with_reducible refine gate_callee (f := 27) rfl ?_); refine goesL_ (some 137) rfl rfl Try.func27 (by kernel_rfl) rfl #[.int .u64 t183] rfl (by (try simp only [List.map_toArray, List.map_cons, List.map_nil]); first | done | rfl | (simp only [List.length_drop, List.length_take]; rfl)) ?_; (with_reducible refine (place_Sibling.calls kj28 t183 t191 t192 _ A58.out).mono ?_); rintro e w69 ⟨rfl, hb⟩; refine ⟨_, rfl, ?_⟩; have n0_ := Aside0.mk (blk_below (g := gb168) (o := .cells #[.int .i64 a0_0, .int .u64 a0_1] 24 (0, 0)) (by (with_reducible repeat (first | refine blk_drewN ?_ _ | refine blk_drew ?_ | refine blk_alloc ?_ _)); exact BK168.out) hb); have n1_ := Aside0.mk (blk_below (g := gb172) (o := .cells #[.int .i64 t170, .int .u64 t171] 24 (0, 0)) (by (with_reducible repeat (first | refine blk_drewN ?_ _ | refine blk_drew ?_ | refine blk_alloc ?_ _)); exact BK172.out) hb); have n2_ := Aside0.mk (blk_below (g := gb180) (o := .cells #[.int .i64 t177, .int .u64 t178] 24 (0, 0)) (by (with_reducible repeat (first | refine blk_drewN ?_ _ | refine blk_drew ?_ | refine blk_alloc ?_ _)); exact BK180.out) hb); have n3_ := Aside0.mk (below_step (by repeat (first | (with_reducible first | exact HB.out | apply below_alloc | apply pw_below_drewN | apply below_drew1 | refine below_set ?_ GE168.out | refine below_set ?_ GE172.out | refine below_set ?_ GE180.out) | exact HB.out)) hb); clear BK168; clear BK172; clear BK180; clear HB; have BK168 := n0_; have BK172 := n1_; have BK180 := n2_; have HB := n3_; clear n0_ n1_ n2_ n3_; (try clear hb); (try clear hb2); (try clear hk); (try clear hi)) | ((with_reducible refine gate_callee (f := 27) rfl ?_); refine goesL_ (some 142) rfl rfl Try.func27 (by kernel_rfl) rfl #[.int .u64 t185] rfl (by (try simp only [List.map_toArray, List.map_cons, List.map_nil]); first | done | rfl | (simp only [List.length_drop, List.length_take]; rfl)) ?_; (with_reducible refine (place_Sibling.calls kj28 t185 t193 t194 _ A59.out).mono ?_); rintro e w70 ⟨rfl, hb⟩; refine ⟨_, rfl, ?_⟩; have n0_ := Aside0.mk (blk_below (g := gb168) (o := .cells #[.int .i64 a0_0, .int .u64 a0_1] 24 (0, 0)) (by (with_reducible repeat (first | refine blk_drewN ?_ _ | refine blk_drew ?_ | refine blk_alloc ?_ _)); exact BK168.out) hb); have n1_ := Aside0.mk (blk_below (g := gb172) (o := .cells #[.int .i64 t170, .int .u64 t171] 24 (0, 0)) (by (with_reducible repeat (first | refine blk_drewN ?_ _ | refine blk_drew ?_ | refine blk_alloc ?_ _)); exact BK172.out) hb); have n2_ := Aside0.mk (blk_below (g := gb180) (o := .cells #[.int .i64 t177, .int .u64 t178] 24 (0, 0)) (by (with_reducible repeat (first | refine blk_drewN ?_ _ | refine blk_drew ?_ | refine blk_alloc ?_ _)); exact BK180.out) hb); have n3_ := Aside0.mk (below_step (by repeat (first | (with_reducible first | exact HB.out | apply below_alloc | apply pw_below_drewN | apply below_drew1 | refine below_set ?_ GE168.out | refine below_set ?_ GE172.out | refine below_set ?_ GE180.out) | exact HB.out)) hb); clear BK168; clear BK172; clear BK180; clear HB; have BK168 := n0_; have BK172 := n1_; have BK180 := n2_; have HB := n3_; clear n0_ n1_ n2_ n3_; (try clear hb); (try clear hb2); (try clear hk); (try clear hi)))
                    (try simp only [Act.put, List.setIfInBounds_toArray, List.set_cons_zero, List.set_cons_succ])
                    go_cut [202] (fun v202 wc => ∃ (kq : Nat) (x202_59 : Bool), v202 = .bool x202_59 ∧ Aside0 (massiflaw03_PlacePostorder.j2 kq t173 x202_59 t170 t171 = some r) ∧ Aside0 (kq ≤ kj28) ∧ Aside0 (wc.heap[gb168]? = some (.cells #[.int .i64 a0_0, .int .u64 a0_1] 24 (0, 0))) ∧ Aside0 (wc.heap[gb172]? = some (.cells #[.int .i64 t170, .int .u64 t171] 24 (0, 0))) ∧ Aside0 (wc.heap[gb180]? = some (.cells #[.int .i64 t177, .int .u64 t178] 24 (0, 0))) ∧ Aside0 (Below w.heap.size w wc))
                    case first => as_aux_lemma =>
                      have H := HC60.out
                      clear HC60
                      by_cases c71 : t184 = true
                      · subst c71
                        have H1 : (if t186 = true then (if t188 = true then (if t190 = true then (if t192 = true then (if t194 = true then (if t185 = (IntKind.u64.wrap (t173 - 1)) then (if 0 ≤ (IntKind.u64.wrap (t170)) then (if t183 = (IntKind.u64.wrap (t173 - (shl .u64 1 (IntKind.u64.wrap (t170))))) then (if t187 = t173 then (if t189 = t173 then (if t191 = t185 then (massiflaw03_PlacePostorder.j2 kj28 t173 (t193 != t183) t170 t171) else (massiflaw03_PlacePostorder.j2 kj28 t173 true t170 t171)) else (massiflaw03_PlacePostorder.j2 kj28 t173 true t170 t171)) else (massiflaw03_PlacePostorder.j2 kj28 t173 true t170 t171)) else (massiflaw03_PlacePostorder.j2 kj28 t173 true t170 t171)) else (none)) else (massiflaw03_PlacePostorder.j2 kj28 t173 true t170 t171)) else (massiflaw03_PlacePostorder.j2 kj28 t173 true t170 t171)) else (massiflaw03_PlacePostorder.j2 kj28 t173 true t170 t171)) else (massiflaw03_PlacePostorder.j2 kj28 t173 true t170 t171)) else (massiflaw03_PlacePostorder.j2 kj28 t173 true t170 t171)) else (massiflaw03_PlacePostorder.j2 kj28 t173 true t170 t171)) = some r := by rw [if_pos rfl] at H; exact H
                        clear H
                        have H := H1
                        clear H1
                        by_cases c72 : t186 = true
                        · subst c72
                          have H1 : (if t188 = true then (if t190 = true then (if t192 = true then (if t194 = true then (if t185 = (IntKind.u64.wrap (t173 - 1)) then (if 0 ≤ (IntKind.u64.wrap (t170)) then (if t183 = (IntKind.u64.wrap (t173 - (shl .u64 1 (IntKind.u64.wrap (t170))))) then (if t187 = t173 then (if t189 = t173 then (if t191 = t185 then (massiflaw03_PlacePostorder.j2 kj28 t173 (t193 != t183) t170 t171) else (massiflaw03_PlacePostorder.j2 kj28 t173 true t170 t171)) else (massiflaw03_PlacePostorder.j2 kj28 t173 true t170 t171)) else (massiflaw03_PlacePostorder.j2 kj28 t173 true t170 t171)) else (massiflaw03_PlacePostorder.j2 kj28 t173 true t170 t171)) else (none)) else (massiflaw03_PlacePostorder.j2 kj28 t173 true t170 t171)) else (massiflaw03_PlacePostorder.j2 kj28 t173 true t170 t171)) else (massiflaw03_PlacePostorder.j2 kj28 t173 true t170 t171)) else (massiflaw03_PlacePostorder.j2 kj28 t173 true t170 t171)) else (massiflaw03_PlacePostorder.j2 kj28 t173 true t170 t171)) = some r := by rw [if_pos rfl] at H; exact H
                          clear H
                          have H := H1
                          clear H1
                          by_cases c73 : t188 = true
                          · subst c73
                            have H1 : (if t190 = true then (if t192 = true then (if t194 = true then (if t185 = (IntKind.u64.wrap (t173 - 1)) then (if 0 ≤ (IntKind.u64.wrap (t170)) then (if t183 = (IntKind.u64.wrap (t173 - (shl .u64 1 (IntKind.u64.wrap (t170))))) then (if t187 = t173 then (if t189 = t173 then (if t191 = t185 then (massiflaw03_PlacePostorder.j2 kj28 t173 (t193 != t183) t170 t171) else (massiflaw03_PlacePostorder.j2 kj28 t173 true t170 t171)) else (massiflaw03_PlacePostorder.j2 kj28 t173 true t170 t171)) else (massiflaw03_PlacePostorder.j2 kj28 t173 true t170 t171)) else (massiflaw03_PlacePostorder.j2 kj28 t173 true t170 t171)) else (none)) else (massiflaw03_PlacePostorder.j2 kj28 t173 true t170 t171)) else (massiflaw03_PlacePostorder.j2 kj28 t173 true t170 t171)) else (massiflaw03_PlacePostorder.j2 kj28 t173 true t170 t171)) else (massiflaw03_PlacePostorder.j2 kj28 t173 true t170 t171)) = some r := by rw [if_pos rfl] at H; exact H
                            clear H
                            have H := H1
                            clear H1
                            by_cases c74 : t190 = true
                            · subst c74
                              have H1 : (if t192 = true then (if t194 = true then (if t185 = (IntKind.u64.wrap (t173 - 1)) then (if 0 ≤ (IntKind.u64.wrap (t170)) then (if t183 = (IntKind.u64.wrap (t173 - (shl .u64 1 (IntKind.u64.wrap (t170))))) then (if t187 = t173 then (if t189 = t173 then (if t191 = t185 then (massiflaw03_PlacePostorder.j2 kj28 t173 (t193 != t183) t170 t171) else (massiflaw03_PlacePostorder.j2 kj28 t173 true t170 t171)) else (massiflaw03_PlacePostorder.j2 kj28 t173 true t170 t171)) else (massiflaw03_PlacePostorder.j2 kj28 t173 true t170 t171)) else (massiflaw03_PlacePostorder.j2 kj28 t173 true t170 t171)) else (none)) else (massiflaw03_PlacePostorder.j2 kj28 t173 true t170 t171)) else (massiflaw03_PlacePostorder.j2 kj28 t173 true t170 t171)) else (massiflaw03_PlacePostorder.j2 kj28 t173 true t170 t171)) = some r := by rw [if_pos rfl] at H; exact H
                              clear H
                              have H := H1
                              clear H1
                              by_cases c75 : t192 = true
                              · subst c75
                                have H1 : (if t194 = true then (if t185 = (IntKind.u64.wrap (t173 - 1)) then (if 0 ≤ (IntKind.u64.wrap (t170)) then (if t183 = (IntKind.u64.wrap (t173 - (shl .u64 1 (IntKind.u64.wrap (t170))))) then (if t187 = t173 then (if t189 = t173 then (if t191 = t185 then (massiflaw03_PlacePostorder.j2 kj28 t173 (t193 != t183) t170 t171) else (massiflaw03_PlacePostorder.j2 kj28 t173 true t170 t171)) else (massiflaw03_PlacePostorder.j2 kj28 t173 true t170 t171)) else (massiflaw03_PlacePostorder.j2 kj28 t173 true t170 t171)) else (massiflaw03_PlacePostorder.j2 kj28 t173 true t170 t171)) else (none)) else (massiflaw03_PlacePostorder.j2 kj28 t173 true t170 t171)) else (massiflaw03_PlacePostorder.j2 kj28 t173 true t170 t171)) = some r := by rw [if_pos rfl] at H; exact H
                                clear H
                                have H := H1
                                clear H1
                                by_cases c76 : t194 = true
                                · subst c76
                                  have H1 : (if t185 = (IntKind.u64.wrap (t173 - 1)) then (if 0 ≤ (IntKind.u64.wrap (t170)) then (if t183 = (IntKind.u64.wrap (t173 - (shl .u64 1 (IntKind.u64.wrap (t170))))) then (if t187 = t173 then (if t189 = t173 then (if t191 = t185 then (massiflaw03_PlacePostorder.j2 kj28 t173 (t193 != t183) t170 t171) else (massiflaw03_PlacePostorder.j2 kj28 t173 true t170 t171)) else (massiflaw03_PlacePostorder.j2 kj28 t173 true t170 t171)) else (massiflaw03_PlacePostorder.j2 kj28 t173 true t170 t171)) else (massiflaw03_PlacePostorder.j2 kj28 t173 true t170 t171)) else (none)) else (massiflaw03_PlacePostorder.j2 kj28 t173 true t170 t171)) = some r := by rw [if_pos rfl] at H; exact H
                                  clear H
                                  have H := H1
                                  clear H1
                                  by_cases c77 : t185 = (IntKind.u64.wrap (t173 - 1))
                                  · rw [if_pos c77] at H
                                    have c77b0 : (t185 == (IntKind.u64.wrap (t173 - 1))) = true := beq_iff_eq.mpr c77
                                    have c77b1 : (t185 != (IntKind.u64.wrap (t173 - 1))) = false := bne_eq_false_iff_eq.mpr c77
                                    clear c77
                                    (first | rw [c77b0] | (simp only [i64_w, i32_w]; rw [c77b0]) | skip)
                                    obtain ⟨ji78, hji78⟩ : ∃ j_ : Int, (IntKind.u64.wrap (t170)) = j_ := ⟨_, rfl⟩
                                    replace H : (if 0 ≤ (ji78) then (if t183 = (IntKind.u64.wrap (t173 - (shl .u64 1 (ji78)))) then (if t187 = t173 then (if t189 = t173 then (if t191 = t185 then (massiflaw03_PlacePostorder.j2 kj28 t173 (t193 != t183) t170 t171) else (massiflaw03_PlacePostorder.j2 kj28 t173 true t170 t171)) else (massiflaw03_PlacePostorder.j2 kj28 t173 true t170 t171)) else (massiflaw03_PlacePostorder.j2 kj28 t173 true t170 t171)) else (massiflaw03_PlacePostorder.j2 kj28 t173 true t170 t171)) else (none)) = some r := by first | (rw [hji78] at H; exact H) | (simp only [hji78] at H ⊢; exact H)
                                    (try clear hji22); (try clear hji22_); (try clear hji22z); (try clear hji22u); (try clear hji22v); (try clear hji22w)
                                    by_cases c79 : 0 ≤ (ji78)
                                    · rw [if_pos c79] at H
                                      have c79b0 := eq_true c79
                                      have c79b1 : decide (0 ≤ (ji78)) = true := decide_eq_true c79
                                      clear c79
                                      obtain ⟨ji80, hji80⟩ : ∃ j_ : Int, (shl .u64 1 (ji78)) = j_ := ⟨_, rfl⟩
                                      replace H : (if t183 = (IntKind.u64.wrap (t173 - (ji80))) then (if t187 = t173 then (if t189 = t173 then (if t191 = t185 then (massiflaw03_PlacePostorder.j2 kj28 t173 (t193 != t183) t170 t171) else (massiflaw03_PlacePostorder.j2 kj28 t173 true t170 t171)) else (massiflaw03_PlacePostorder.j2 kj28 t173 true t170 t171)) else (massiflaw03_PlacePostorder.j2 kj28 t173 true t170 t171)) else (massiflaw03_PlacePostorder.j2 kj28 t173 true t170 t171)) = some r := by first | (rw [hji80] at H; exact H) | (simp only [hji80] at H ⊢; exact H)
                                      have hji80_ : (IntKind.u64.wrap (1 * 2 ^ min (ji78).toNat 64)) = ji80 := hji80
                                      have hji80z : (ji78) ≤ 64 → (IntKind.u64.wrap (1 * 2 ^ (ji78).toNat)) = ji80 := shl_small hji80
                                      have hji80u : (IntKind.u64.wrap (2 ^ min (ji78).toNat 64)) = ji80 := by have h_ := hji80_; rw [Int.one_mul] at h_; exact h_
                                      have hji80v : (ji78) ≤ 64 → (IntKind.u64.wrap (2 ^ (ji78).toNat)) = ji80 := fun hle_ => by have h_ := hji80z hle_; rw [Int.one_mul] at h_; exact h_
                                      by_cases c81 : t183 = (IntKind.u64.wrap (t173 - (ji80)))
                                      · rw [if_pos c81] at H
                                        have c81b0 : (t183 == (IntKind.u64.wrap (t173 - (ji80)))) = true := beq_iff_eq.mpr c81
                                        have c81b1 : (t183 != (IntKind.u64.wrap (t173 - (ji80)))) = false := bne_eq_false_iff_eq.mpr c81
                                        clear c81
                                        by_cases c82 : t187 = t173
                                        · rw [if_pos c82] at H
                                          have c82b0 : (t187 == t173) = true := beq_iff_eq.mpr c82
                                          have c82b1 : (t187 != t173) = false := bne_eq_false_iff_eq.mpr c82
                                          clear c82
                                          by_cases c83 : t189 = t173
                                          · rw [if_pos c83] at H
                                            have c83b0 : (t189 == t173) = true := beq_iff_eq.mpr c83
                                            have c83b1 : (t189 != t173) = false := bne_eq_false_iff_eq.mpr c83
                                            clear c83
                                            by_cases c84 : t191 = t185
                                            · rw [if_pos c84] at H
                                              have c84b0 : (t191 == t185) = true := beq_iff_eq.mpr c84
                                              have c84b1 : (t191 != t185) = false := bne_eq_false_iff_eq.mpr c84
                                              clear c84
                                              have H' := Aside0.mk H
                                              clear H
                                              have hnb85 := NB172_168.out
                                              have hnc85 := NB168_172.out
                                              have hnb86 := NB172_180.out
                                              have hnc86 := NB180_172.out
                                              have hcz87_0 : w70.cell? ⟨gb172, 0, none⟩ = some (.int .i64 t170) := (blk_cell BK172.out 0).trans rfl
                                              have hcz87_1 : w70.cell? ⟨gb172, 1, none⟩ = some (.int .u64 t171) := (blk_cell BK172.out 1).trans rfl
                                              have hfz87_0 := blk_frozen BK172.out 0
                                              have hfz87_1 := blk_frozen BK172.out 1
                                              go_wp2
                                              go_meet
                                              case rel => exact ⟨_, ((t193 != t183)), (by first | rfl | (simp; done) | (simp [*]; done)), H', ⟨by have := HJ6.out; have := HJ28.out; first | omega | exact Nat.le_refl _⟩, ⟨by (with_reducible repeat (first | refine blk_drewN ?_ _ | refine blk_drew ?_ | refine blk_alloc ?_ _)); exact BK168.out⟩, ⟨by (with_reducible repeat (first | refine blk_drewN ?_ _ | refine blk_drew ?_ | refine blk_alloc ?_ _)); exact BK172.out⟩, ⟨by (with_reducible repeat (first | refine blk_drewN ?_ _ | refine blk_drew ?_ | refine blk_alloc ?_ _)); exact BK180.out⟩, ⟨by repeat (first | (with_reducible first | exact HB.out | apply below_alloc | apply pw_below_drewN | apply below_drew1 | refine below_set ?_ GE168.out | refine below_set ?_ GE172.out | refine below_set ?_ GE180.out) | exact HB.out)⟩⟩
                                            · rw [if_neg c84] at H
                                              have c84b0 : (t191 == t185) = false := beq_eq_false_iff_ne.mpr c84
                                              have c84b1 : (t191 != t185) = true := bne_iff_ne.mpr c84
                                              have H' := Aside0.mk H
                                              clear H
                                              have hnb88 := NB172_168.out
                                              have hnc88 := NB168_172.out
                                              have hnb89 := NB172_180.out
                                              have hnc89 := NB180_172.out
                                              have hcz90_0 : w70.cell? ⟨gb172, 0, none⟩ = some (.int .i64 t170) := (blk_cell BK172.out 0).trans rfl
                                              have hcz90_1 : w70.cell? ⟨gb172, 1, none⟩ = some (.int .u64 t171) := (blk_cell BK172.out 1).trans rfl
                                              have hfz90_0 := blk_frozen BK172.out 0
                                              have hfz90_1 := blk_frozen BK172.out 1
                                              go_wp2
                                              go_meet
                                              case rel => exact ⟨_, (true), (by first | rfl | (simp; done) | (simp [*]; done)), H', ⟨by have := HJ6.out; have := HJ28.out; first | omega | exact Nat.le_refl _⟩, ⟨by (with_reducible repeat (first | refine blk_drewN ?_ _ | refine blk_drew ?_ | refine blk_alloc ?_ _)); exact BK168.out⟩, ⟨by (with_reducible repeat (first | refine blk_drewN ?_ _ | refine blk_drew ?_ | refine blk_alloc ?_ _)); exact BK172.out⟩, ⟨by (with_reducible repeat (first | refine blk_drewN ?_ _ | refine blk_drew ?_ | refine blk_alloc ?_ _)); exact BK180.out⟩, ⟨by repeat (first | (with_reducible first | exact HB.out | apply below_alloc | apply pw_below_drewN | apply below_drew1 | refine below_set ?_ GE168.out | refine below_set ?_ GE172.out | refine below_set ?_ GE180.out) | exact HB.out)⟩⟩
                                          · rw [if_neg c83] at H
                                            have c83b0 : (t189 == t173) = false := beq_eq_false_iff_ne.mpr c83
                                            have c83b1 : (t189 != t173) = true := bne_iff_ne.mpr c83
                                            have H' := Aside0.mk H
                                            clear H
                                            have hnb91 := NB172_168.out
                                            have hnc91 := NB168_172.out
                                            have hnb92 := NB172_180.out
                                            have hnc92 := NB180_172.out
                                            have hcz93_0 : w70.cell? ⟨gb172, 0, none⟩ = some (.int .i64 t170) := (blk_cell BK172.out 0).trans rfl
                                            have hcz93_1 : w70.cell? ⟨gb172, 1, none⟩ = some (.int .u64 t171) := (blk_cell BK172.out 1).trans rfl
                                            have hfz93_0 := blk_frozen BK172.out 0
                                            have hfz93_1 := blk_frozen BK172.out 1
                                            go_wp2
                                            go_meet
                                            case rel => exact ⟨_, (true), (by first | rfl | (simp; done) | (simp [*]; done)), H', ⟨by have := HJ6.out; have := HJ28.out; first | omega | exact Nat.le_refl _⟩, ⟨by (with_reducible repeat (first | refine blk_drewN ?_ _ | refine blk_drew ?_ | refine blk_alloc ?_ _)); exact BK168.out⟩, ⟨by (with_reducible repeat (first | refine blk_drewN ?_ _ | refine blk_drew ?_ | refine blk_alloc ?_ _)); exact BK172.out⟩, ⟨by (with_reducible repeat (first | refine blk_drewN ?_ _ | refine blk_drew ?_ | refine blk_alloc ?_ _)); exact BK180.out⟩, ⟨by repeat (first | (with_reducible first | exact HB.out | apply below_alloc | apply pw_below_drewN | apply below_drew1 | refine below_set ?_ GE168.out | refine below_set ?_ GE172.out | refine below_set ?_ GE180.out) | exact HB.out)⟩⟩
                                        · rw [if_neg c82] at H
                                          have c82b0 : (t187 == t173) = false := beq_eq_false_iff_ne.mpr c82
                                          have c82b1 : (t187 != t173) = true := bne_iff_ne.mpr c82
                                          have H' := Aside0.mk H
                                          clear H
                                          have hnb94 := NB172_168.out
                                          have hnc94 := NB168_172.out
                                          have hnb95 := NB172_180.out
                                          have hnc95 := NB180_172.out
                                          have hcz96_0 : w70.cell? ⟨gb172, 0, none⟩ = some (.int .i64 t170) := (blk_cell BK172.out 0).trans rfl
                                          have hcz96_1 : w70.cell? ⟨gb172, 1, none⟩ = some (.int .u64 t171) := (blk_cell BK172.out 1).trans rfl
                                          have hfz96_0 := blk_frozen BK172.out 0
                                          have hfz96_1 := blk_frozen BK172.out 1
                                          go_wp2
                                          go_meet
                                          case rel => exact ⟨_, (true), (by first | rfl | (simp; done) | (simp [*]; done)), H', ⟨by have := HJ6.out; have := HJ28.out; first | omega | exact Nat.le_refl _⟩, ⟨by (with_reducible repeat (first | refine blk_drewN ?_ _ | refine blk_drew ?_ | refine blk_alloc ?_ _)); exact BK168.out⟩, ⟨by (with_reducible repeat (first | refine blk_drewN ?_ _ | refine blk_drew ?_ | refine blk_alloc ?_ _)); exact BK172.out⟩, ⟨by (with_reducible repeat (first | refine blk_drewN ?_ _ | refine blk_drew ?_ | refine blk_alloc ?_ _)); exact BK180.out⟩, ⟨by repeat (first | (with_reducible first | exact HB.out | apply below_alloc | apply pw_below_drewN | apply below_drew1 | refine below_set ?_ GE168.out | refine below_set ?_ GE172.out | refine below_set ?_ GE180.out) | exact HB.out)⟩⟩
                                      · rw [if_neg c81] at H
                                        have c81b0 : (t183 == (IntKind.u64.wrap (t173 - (ji80)))) = false := beq_eq_false_iff_ne.mpr c81
                                        have c81b1 : (t183 != (IntKind.u64.wrap (t173 - (ji80)))) = true := bne_iff_ne.mpr c81
                                        have H' := Aside0.mk H
                                        clear H
                                        have hnb97 := NB172_168.out
                                        have hnc97 := NB168_172.out
                                        have hnb98 := NB172_180.out
                                        have hnc98 := NB180_172.out
                                        have hcz99_0 : w70.cell? ⟨gb172, 0, none⟩ = some (.int .i64 t170) := (blk_cell BK172.out 0).trans rfl
                                        have hcz99_1 : w70.cell? ⟨gb172, 1, none⟩ = some (.int .u64 t171) := (blk_cell BK172.out 1).trans rfl
                                        have hfz99_0 := blk_frozen BK172.out 0
                                        have hfz99_1 := blk_frozen BK172.out 1
                                        go_wp2
                                        go_meet
                                        case rel => exact ⟨_, (true), (by first | rfl | (simp; done) | (simp [*]; done)), H', ⟨by have := HJ6.out; have := HJ28.out; first | omega | exact Nat.le_refl _⟩, ⟨by (with_reducible repeat (first | refine blk_drewN ?_ _ | refine blk_drew ?_ | refine blk_alloc ?_ _)); exact BK168.out⟩, ⟨by (with_reducible repeat (first | refine blk_drewN ?_ _ | refine blk_drew ?_ | refine blk_alloc ?_ _)); exact BK172.out⟩, ⟨by (with_reducible repeat (first | refine blk_drewN ?_ _ | refine blk_drew ?_ | refine blk_alloc ?_ _)); exact BK180.out⟩, ⟨by repeat (first | (with_reducible first | exact HB.out | apply below_alloc | apply pw_below_drewN | apply below_drew1 | refine below_set ?_ GE168.out | refine below_set ?_ GE172.out | refine below_set ?_ GE180.out) | exact HB.out)⟩⟩
                                    · rw [if_neg c79] at H
                                      exact absurd H (by simp)
                                  · rw [if_neg c77] at H
                                    have c77b0 : (t185 == (IntKind.u64.wrap (t173 - 1))) = false := beq_eq_false_iff_ne.mpr c77
                                    have c77b1 : (t185 != (IntKind.u64.wrap (t173 - 1))) = true := bne_iff_ne.mpr c77
                                    (first | rw [c77b0] | (simp only [i64_w, i32_w]; rw [c77b0]) | skip)
                                    have H' := Aside0.mk H
                                    clear H
                                    go_wp2
                                    go_meet
                                    case rel => exact ⟨_, (true), (by first | rfl | (simp; done) | (simp [*]; done)), H', ⟨by have := HJ6.out; have := HJ28.out; first | omega | exact Nat.le_refl _⟩, ⟨by (with_reducible repeat (first | refine blk_drewN ?_ _ | refine blk_drew ?_ | refine blk_alloc ?_ _)); exact BK168.out⟩, ⟨by (with_reducible repeat (first | refine blk_drewN ?_ _ | refine blk_drew ?_ | refine blk_alloc ?_ _)); exact BK172.out⟩, ⟨by (with_reducible repeat (first | refine blk_drewN ?_ _ | refine blk_drew ?_ | refine blk_alloc ?_ _)); exact BK180.out⟩, ⟨by repeat (first | (with_reducible first | exact HB.out | apply below_alloc | apply pw_below_drewN | apply below_drew1 | refine below_set ?_ GE168.out | refine below_set ?_ GE172.out | refine below_set ?_ GE180.out) | exact HB.out)⟩⟩
                                · replace c76 := Bool.eq_false_iff.mpr c76
                                  subst c76
                                  have H1 : (massiflaw03_PlacePostorder.j2 kj28 t173 true t170 t171) = some r := by rw [if_neg (show ¬ (false = true) by decide)] at H; exact H
                                  clear H
                                  have H := H1
                                  clear H1
                                  have H' := Aside0.mk H
                                  clear H
                                  go_wp2
                                  go_meet
                                  case rel => exact ⟨_, (true), (by first | rfl | (simp; done) | (simp [*]; done)), H', ⟨by have := HJ6.out; have := HJ28.out; first | omega | exact Nat.le_refl _⟩, ⟨by (with_reducible repeat (first | refine blk_drewN ?_ _ | refine blk_drew ?_ | refine blk_alloc ?_ _)); exact BK168.out⟩, ⟨by (with_reducible repeat (first | refine blk_drewN ?_ _ | refine blk_drew ?_ | refine blk_alloc ?_ _)); exact BK172.out⟩, ⟨by (with_reducible repeat (first | refine blk_drewN ?_ _ | refine blk_drew ?_ | refine blk_alloc ?_ _)); exact BK180.out⟩, ⟨by repeat (first | (with_reducible first | exact HB.out | apply below_alloc | apply pw_below_drewN | apply below_drew1 | refine below_set ?_ GE168.out | refine below_set ?_ GE172.out | refine below_set ?_ GE180.out) | exact HB.out)⟩⟩
                              · replace c75 := Bool.eq_false_iff.mpr c75
                                subst c75
                                have H1 : (massiflaw03_PlacePostorder.j2 kj28 t173 true t170 t171) = some r := by rw [if_neg (show ¬ (false = true) by decide)] at H; exact H
                                clear H
                                have H := H1
                                clear H1
                                have H' := Aside0.mk H
                                clear H
                                go_wp2
                                go_meet
                                case rel => exact ⟨_, (true), (by first | rfl | (simp; done) | (simp [*]; done)), H', ⟨by have := HJ6.out; have := HJ28.out; first | omega | exact Nat.le_refl _⟩, ⟨by (with_reducible repeat (first | refine blk_drewN ?_ _ | refine blk_drew ?_ | refine blk_alloc ?_ _)); exact BK168.out⟩, ⟨by (with_reducible repeat (first | refine blk_drewN ?_ _ | refine blk_drew ?_ | refine blk_alloc ?_ _)); exact BK172.out⟩, ⟨by (with_reducible repeat (first | refine blk_drewN ?_ _ | refine blk_drew ?_ | refine blk_alloc ?_ _)); exact BK180.out⟩, ⟨by repeat (first | (with_reducible first | exact HB.out | apply below_alloc | apply pw_below_drewN | apply below_drew1 | refine below_set ?_ GE168.out | refine below_set ?_ GE172.out | refine below_set ?_ GE180.out) | exact HB.out)⟩⟩
                            · replace c74 := Bool.eq_false_iff.mpr c74
                              subst c74
                              have H1 : (massiflaw03_PlacePostorder.j2 kj28 t173 true t170 t171) = some r := by rw [if_neg (show ¬ (false = true) by decide)] at H; exact H
                              clear H
                              have H := H1
                              clear H1
                              have H' := Aside0.mk H
                              clear H
                              go_wp2
                              go_meet
                              case rel => exact ⟨_, (true), (by first | rfl | (simp; done) | (simp [*]; done)), H', ⟨by have := HJ6.out; have := HJ28.out; first | omega | exact Nat.le_refl _⟩, ⟨by (with_reducible repeat (first | refine blk_drewN ?_ _ | refine blk_drew ?_ | refine blk_alloc ?_ _)); exact BK168.out⟩, ⟨by (with_reducible repeat (first | refine blk_drewN ?_ _ | refine blk_drew ?_ | refine blk_alloc ?_ _)); exact BK172.out⟩, ⟨by (with_reducible repeat (first | refine blk_drewN ?_ _ | refine blk_drew ?_ | refine blk_alloc ?_ _)); exact BK180.out⟩, ⟨by repeat (first | (with_reducible first | exact HB.out | apply below_alloc | apply pw_below_drewN | apply below_drew1 | refine below_set ?_ GE168.out | refine below_set ?_ GE172.out | refine below_set ?_ GE180.out) | exact HB.out)⟩⟩
                          · replace c73 := Bool.eq_false_iff.mpr c73
                            subst c73
                            have H1 : (massiflaw03_PlacePostorder.j2 kj28 t173 true t170 t171) = some r := by rw [if_neg (show ¬ (false = true) by decide)] at H; exact H
                            clear H
                            have H := H1
                            clear H1
                            have H' := Aside0.mk H
                            clear H
                            go_wp2
                            go_meet
                            case rel => exact ⟨_, (true), (by first | rfl | (simp; done) | (simp [*]; done)), H', ⟨by have := HJ6.out; have := HJ28.out; first | omega | exact Nat.le_refl _⟩, ⟨by (with_reducible repeat (first | refine blk_drewN ?_ _ | refine blk_drew ?_ | refine blk_alloc ?_ _)); exact BK168.out⟩, ⟨by (with_reducible repeat (first | refine blk_drewN ?_ _ | refine blk_drew ?_ | refine blk_alloc ?_ _)); exact BK172.out⟩, ⟨by (with_reducible repeat (first | refine blk_drewN ?_ _ | refine blk_drew ?_ | refine blk_alloc ?_ _)); exact BK180.out⟩, ⟨by repeat (first | (with_reducible first | exact HB.out | apply below_alloc | apply pw_below_drewN | apply below_drew1 | refine below_set ?_ GE168.out | refine below_set ?_ GE172.out | refine below_set ?_ GE180.out) | exact HB.out)⟩⟩
                        · replace c72 := Bool.eq_false_iff.mpr c72
                          subst c72
                          have H1 : (massiflaw03_PlacePostorder.j2 kj28 t173 true t170 t171) = some r := by rw [if_neg (show ¬ (false = true) by decide)] at H; exact H
                          clear H
                          have H := H1
                          clear H1
                          have H' := Aside0.mk H
                          clear H
                          go_wp2
                          go_meet
                          case rel => exact ⟨_, (true), (by first | rfl | (simp; done) | (simp [*]; done)), H', ⟨by have := HJ6.out; have := HJ28.out; first | omega | exact Nat.le_refl _⟩, ⟨by (with_reducible repeat (first | refine blk_drewN ?_ _ | refine blk_drew ?_ | refine blk_alloc ?_ _)); exact BK168.out⟩, ⟨by (with_reducible repeat (first | refine blk_drewN ?_ _ | refine blk_drew ?_ | refine blk_alloc ?_ _)); exact BK172.out⟩, ⟨by (with_reducible repeat (first | refine blk_drewN ?_ _ | refine blk_drew ?_ | refine blk_alloc ?_ _)); exact BK180.out⟩, ⟨by repeat (first | (with_reducible first | exact HB.out | apply below_alloc | apply pw_below_drewN | apply below_drew1 | refine below_set ?_ GE168.out | refine below_set ?_ GE172.out | refine below_set ?_ GE180.out) | exact HB.out)⟩⟩
                      · replace c71 := Bool.eq_false_iff.mpr c71
                        subst c71
                        have H1 : (massiflaw03_PlacePostorder.j2 kj28 t173 true t170 t171) = some r := by rw [if_neg (show ¬ (false = true) by decide)] at H; exact H
                        clear H
                        have H := H1
                        clear H1
                        have H' := Aside0.mk H
                        clear H
                        go_wp2
                        go_meet
                        case rel => exact ⟨_, (true), (by first | rfl | (simp; done) | (simp [*]; done)), H', ⟨by have := HJ6.out; have := HJ28.out; first | omega | exact Nat.le_refl _⟩, ⟨by (with_reducible repeat (first | refine blk_drewN ?_ _ | refine blk_drew ?_ | refine blk_alloc ?_ _)); exact BK168.out⟩, ⟨by (with_reducible repeat (first | refine blk_drewN ?_ _ | refine blk_drew ?_ | refine blk_alloc ?_ _)); exact BK172.out⟩, ⟨by (with_reducible repeat (first | refine blk_drewN ?_ _ | refine blk_drew ?_ | refine blk_alloc ?_ _)); exact BK180.out⟩, ⟨by repeat (first | (with_reducible first | exact HB.out | apply below_alloc | apply pw_below_drewN | apply below_drew1 | refine below_set ?_ GE168.out | refine below_set ?_ GE172.out | refine below_set ?_ GE180.out) | exact HB.out)⟩⟩
                    case rest => as_aux_lemma =>
                      clear HC60
                      try clear c1
                      try clear c2
                      try clear p2
                      try clear c3
                      try clear c4
                      try clear c5
                      try clear c6
                      try clear p6
                      try clear c7
                      try clear c8
                      try clear c9
                      try clear c11
                      try clear c13
                      try clear c14
                      try clear c16
                      try clear c17
                      try clear c18
                      try clear c19
                      try clear c21
                      try clear c23
                      try clear c23b0
                      try clear c23b1
                      try clear c25
                      try clear c26
                      try clear c26b0
                      try clear c27
                      try clear c30
                      try clear c34
                      try clear c35
                      try clear c38
                      try clear c39
                      try clear c40
                      try clear c40b0
                      try clear c41
                      try clear c41b0
                      try clear c42
                      try clear c43
                      try clear c45
                      try clear c47
                      try clear c48
                      try clear c50
                      try clear c52
                      try clear c53
                      try clear c53b0
                      try clear c61
                      try clear c62
                      try clear p64
                      try clear c71
                      try clear c72
                      try clear c73
                      try clear c74
                      try clear c75
                      try clear c76
                      try clear c77
                      try clear c77b0
                      try clear c77b1
                      try clear c79
                      try clear c79b0
                      try clear c79b1
                      try clear c81
                      try clear c81b0
                      try clear c81b1
                      try clear c82
                      try clear c82b0
                      try clear c82b1
                      try clear c83
                      try clear c83b0
                      try clear c83b1
                      try clear c84
                      try clear c84b0
                      try clear c84b1
                      try clear c85
                      try clear c86
                      try clear c88
                      try clear c89
                      try clear c91
                      try clear c92
                      try clear c94
                      try clear c95
                      try clear c97
                      try clear c98
                      try clear hcz10_0
                      try clear hcz10_1
                      try clear hcz14_0
                      try clear hcz14_1
                      try clear hcz20_0
                      try clear hcz20_1
                      try clear hcz31_0
                      try clear hcz31_1
                      try clear hcz36_0
                      try clear hcz36_1
                      try clear hcz37_0
                      try clear hcz37_1
                      try clear hcz44_0
                      try clear hcz44_1
                      try clear hcz46_0
                      try clear hcz46_1
                      try clear hcz49_0
                      try clear hcz49_1
                      try clear hcz51_0
                      try clear hcz51_1
                      try clear hcz63_0
                      try clear hcz63_1
                      try clear hcz65_0
                      try clear hcz65_1
                      try clear hcz87_0
                      try clear hcz87_1
                      try clear hcz90_0
                      try clear hcz90_1
                      try clear hcz93_0
                      try clear hcz93_1
                      try clear hcz96_0
                      try clear hcz96_1
                      try clear hcz99_0
                      try clear hcz99_1
                      try clear hfz10_0
                      try clear hfz10_1
                      try clear hfz14_0
                      try clear hfz14_1
                      try clear hfz20_0
                      try clear hfz20_1
                      try clear hfz31_0
                      try clear hfz31_1
                      try clear hfz36_0
                      try clear hfz36_1
                      try clear hfz37_0
                      try clear hfz37_1
                      try clear hfz44_0
                      try clear hfz44_1
                      try clear hfz46_0
                      try clear hfz46_1
                      try clear hfz49_0
                      try clear hfz49_1
                      try clear hfz51_0
                      try clear hfz51_1
                      try clear hfz63_0
                      try clear hfz63_1
                      try clear hfz65_0
                      try clear hfz65_1
                      try clear hfz87_0
                      try clear hfz87_1
                      try clear hfz90_0
                      try clear hfz90_1
                      try clear hfz93_0
                      try clear hfz93_1
                      try clear hfz96_0
                      try clear hfz96_1
                      try clear hfz99_0
                      try clear hfz99_1
                      try clear p2
                      obtain ⟨kq, x202_59, rfl, HA, HJ59, BK168, BK172, BK180, HB⟩ := hcut
                      cases kq with
                      | zero => exact absurd HA.out (by simp [massiflaw03_PlacePostorder.j2])
                      | succ kj59 =>
                        have H := HA.out
                        clear HA
                        simp only [massiflaw03_PlacePostorder.j2] at H
                        by_cases c100 : x202_59 = true
                        · subst c100
                          have H1 : (some false) = some r := by rw [if_pos rfl] at H; exact H
                          clear H
                          have H := H1
                          clear H1
                          obtain rfl := Option.some.inj H
                          go_wp2
                          go_ret
                          exact ⟨by first | rfl | (simp [errW_none, errW_some] <;> rfl) | (simp only [← hji22, ← hji24, ← hji27]; first | rfl | (simp [errW_none, errW_some] <;> rfl)) | (simp [*, errW_none, errW_some] <;> rfl), by repeat (first | (with_reducible first | exact HB.out | apply below_alloc | apply pw_below_drewN | apply below_drew1 | refine below_set ?_ GE168.out | refine below_set ?_ GE172.out | refine below_set ?_ GE180.out) | exact HB.out)⟩
                        · replace c100 := Bool.eq_false_iff.mpr c100
                          subst c100
                          have H1 : ((place_Parent.f kj59 t173).bind fun bt195 => ((place_Sibling.f kj59 t173).bind fun bt197 => (if (bt195.2 == (decide (t170 < 40))) = true then (some (bt197.2 == bt195.2)) else (some false)))) = some r := by rw [if_neg (show ¬ (false = true) by decide)] at H; exact H
                          clear H
                          have H := H1
                          clear H1
                          replace H := Option.bind_eq_some_iff.mp H
                          obtain ⟨⟨t195, t196⟩, A1010, H⟩ := H
                          replace H : ((place_Sibling.f kj59 t173).bind fun bt197 => (if (t196 == (decide (t170 < 40))) = true then (some (bt197.2 == t196)) else (some false))) = some r := H
                          have A101 := Aside0.mk A1010
                          clear A1010
                          replace H := Option.bind_eq_some_iff.mp H
                          obtain ⟨⟨t197, t198⟩, A1020, H⟩ := H
                          replace H : (if (t196 == (decide (t170 < 40))) = true then (some (t198 == t196)) else (some false)) = some r := H
                          have A102 := Aside0.mk A1020
                          clear A1020
                          by_cases c103 : (t196 == (decide (t170 < 40))) = true
                          · rw [if_pos c103] at H
                            have c103b0 : (t196 == (decide (t170 < 40))) = true := c103
                            (try (have c103b1 : decide (t196 = (decide (t170 < 40))) = true := by simpa using c103))
                            (try (have c103b2 : (t196 == (decide (t170 < 40))) = true := by simpa using c103))
                            clear c103
                            obtain rfl := Option.some.inj H
                            go_wp2_with (first | ((with_reducible refine gate_callee (f := 25) rfl ?_); refine goesL_ (some 205) rfl rfl Try.func25 (by kernel_rfl) rfl #[.int .u64 t173] rfl (by (try simp only [List.map_toArray, List.map_cons, List.map_nil]); first | done | rfl | (simp only [List.length_drop, List.length_take]; rfl)) ?_; (with_reducible refine (place_Parent.calls kj59 t173 t195 t196 _ A101.out).mono ?_); rintro e w104 ⟨rfl, hb⟩; refine ⟨_, rfl, ?_⟩; have n0_ := Aside0.mk (blk_below (g := gb168) (o := .cells #[.int .i64 a0_0, .int .u64 a0_1] 24 (0, 0)) (by (with_reducible repeat (first | refine blk_drewN ?_ _ | refine blk_drew ?_ | refine blk_alloc ?_ _)); exact BK168.out) hb); have n1_ := Aside0.mk (blk_below (g := gb172) (o := .cells #[.int .i64 t170, .int .u64 t171] 24 (0, 0)) (by (with_reducible repeat (first | refine blk_drewN ?_ _ | refine blk_drew ?_ | refine blk_alloc ?_ _)); exact BK172.out) hb); have n2_ := Aside0.mk (blk_below (g := gb180) (o := .cells #[.int .i64 t177, .int .u64 t178] 24 (0, 0)) (by (with_reducible repeat (first | refine blk_drewN ?_ _ | refine blk_drew ?_ | refine blk_alloc ?_ _)); exact BK180.out) hb); have n3_ := Aside0.mk (below_step (by repeat (first | (with_reducible first | exact HB.out | apply below_alloc | apply pw_below_drewN | apply below_drew1 | refine below_set ?_ GE168.out | refine below_set ?_ GE172.out | refine below_set ?_ GE180.out) | exact HB.out)) hb); clear BK168; clear BK172; clear BK180; clear HB; have BK168 := n0_; have BK172 := n1_; have BK180 := n2_; have HB := n3_; clear n0_ n1_ n2_ n3_; (try clear hb); (try clear hb2); (try clear hk); (try clear hi)) | ((with_reducible refine gate_callee (f := 27) rfl ?_); refine goesL_ (some 210) rfl rfl Try.func27 (by kernel_rfl) rfl #[.int .u64 t173] rfl (by (try simp only [List.map_toArray, List.map_cons, List.map_nil]); first | done | rfl | (simp only [List.length_drop, List.length_take]; rfl)) ?_; (with_reducible refine (place_Sibling.calls kj59 t173 t197 t198 _ A102.out).mono ?_); rintro e w105 ⟨rfl, hb⟩; refine ⟨_, rfl, ?_⟩; have n0_ := Aside0.mk (blk_below (g := gb168) (o := .cells #[.int .i64 a0_0, .int .u64 a0_1] 24 (0, 0)) (by (with_reducible repeat (first | refine blk_drewN ?_ _ | refine blk_drew ?_ | refine blk_alloc ?_ _)); exact BK168.out) hb); have n1_ := Aside0.mk (blk_below (g := gb172) (o := .cells #[.int .i64 t170, .int .u64 t171] 24 (0, 0)) (by (with_reducible repeat (first | refine blk_drewN ?_ _ | refine blk_drew ?_ | refine blk_alloc ?_ _)); exact BK172.out) hb); have n2_ := Aside0.mk (blk_below (g := gb180) (o := .cells #[.int .i64 t177, .int .u64 t178] 24 (0, 0)) (by (with_reducible repeat (first | refine blk_drewN ?_ _ | refine blk_drew ?_ | refine blk_alloc ?_ _)); exact BK180.out) hb); have n3_ := Aside0.mk (below_step (by repeat (first | (with_reducible first | exact HB.out | apply below_alloc | apply pw_below_drewN | apply below_drew1 | refine below_set ?_ GE168.out | refine below_set ?_ GE172.out | refine below_set ?_ GE180.out) | exact HB.out)) hb); clear BK168; clear BK172; clear BK180; clear HB; have BK168 := n0_; have BK172 := n1_; have BK180 := n2_; have HB := n3_; clear n0_ n1_ n2_ n3_; (try clear hb); (try clear hb2); (try clear hk); (try clear hi); have hnb106 := NB172_168.out; have hnc106 := NB168_172.out; have hnb107 := NB172_180.out; have hnc107 := NB180_172.out; have hcz108_0 : w105.cell? ⟨gb172, 0, none⟩ = some (.int .i64 t170) := (blk_cell BK172.out 0).trans rfl; have hcz108_1 : w105.cell? ⟨gb172, 1, none⟩ = some (.int .u64 t171) := (blk_cell BK172.out 1).trans rfl; have hfz108_0 := blk_frozen BK172.out 0; have hfz108_1 := blk_frozen BK172.out 1))
                            go_ret
                            exact ⟨by first | rfl | (simp [errW_none, errW_some] <;> rfl) | (simp only [← hji22, ← hji24, ← hji27]; first | rfl | (simp [errW_none, errW_some] <;> rfl)) | (simp [*, errW_none, errW_some] <;> rfl), by repeat (first | (with_reducible first | exact HB.out | apply below_alloc | apply pw_below_drewN | apply below_drew1 | refine below_set ?_ GE168.out | refine below_set ?_ GE172.out | refine below_set ?_ GE180.out) | exact HB.out)⟩
                          · rw [if_neg c103] at H
                            have c103b0 : (t196 == (decide (t170 < 40))) = false := by simpa using c103
                            (try (have c103b1 : decide (t196 = (decide (t170 < 40))) = false := by simpa using c103))
                            (try (have c103b2 : (t196 == (decide (t170 < 40))) = false := by simpa using c103))
                            (try (have c103b3 : ¬ (t196 = (decide (t170 < 40))) := by simpa using c103))
                            clear c103
                            obtain rfl := Option.some.inj H
                            go_wp2_with (first | ((with_reducible refine gate_callee (f := 25) rfl ?_); refine goesL_ (some 205) rfl rfl Try.func25 (by kernel_rfl) rfl #[.int .u64 t173] rfl (by (try simp only [List.map_toArray, List.map_cons, List.map_nil]); first | done | rfl | (simp only [List.length_drop, List.length_take]; rfl)) ?_; (with_reducible refine (place_Parent.calls kj59 t173 t195 t196 _ A101.out).mono ?_); rintro e w109 ⟨rfl, hb⟩; refine ⟨_, rfl, ?_⟩; have n0_ := Aside0.mk (blk_below (g := gb168) (o := .cells #[.int .i64 a0_0, .int .u64 a0_1] 24 (0, 0)) (by (with_reducible repeat (first | refine blk_drewN ?_ _ | refine blk_drew ?_ | refine blk_alloc ?_ _)); exact BK168.out) hb); have n1_ := Aside0.mk (blk_below (g := gb172) (o := .cells #[.int .i64 t170, .int .u64 t171] 24 (0, 0)) (by (with_reducible repeat (first | refine blk_drewN ?_ _ | refine blk_drew ?_ | refine blk_alloc ?_ _)); exact BK172.out) hb); have n2_ := Aside0.mk (blk_below (g := gb180) (o := .cells #[.int .i64 t177, .int .u64 t178] 24 (0, 0)) (by (with_reducible repeat (first | refine blk_drewN ?_ _ | refine blk_drew ?_ | refine blk_alloc ?_ _)); exact BK180.out) hb); have n3_ := Aside0.mk (below_step (by repeat (first | (with_reducible first | exact HB.out | apply below_alloc | apply pw_below_drewN | apply below_drew1 | refine below_set ?_ GE168.out | refine below_set ?_ GE172.out | refine below_set ?_ GE180.out) | exact HB.out)) hb); clear BK168; clear BK172; clear BK180; clear HB; have BK168 := n0_; have BK172 := n1_; have BK180 := n2_; have HB := n3_; clear n0_ n1_ n2_ n3_; (try clear hb); (try clear hb2); (try clear hk); (try clear hi)) | ((with_reducible refine gate_callee (f := 27) rfl ?_); refine goesL_ (some 210) rfl rfl Try.func27 (by kernel_rfl) rfl #[.int .u64 t173] rfl (by (try simp only [List.map_toArray, List.map_cons, List.map_nil]); first | done | rfl | (simp only [List.length_drop, List.length_take]; rfl)) ?_; (with_reducible refine (place_Sibling.calls kj59 t173 t197 t198 _ A102.out).mono ?_); rintro e w110 ⟨rfl, hb⟩; refine ⟨_, rfl, ?_⟩; have n0_ := Aside0.mk (blk_below (g := gb168) (o := .cells #[.int .i64 a0_0, .int .u64 a0_1] 24 (0, 0)) (by (with_reducible repeat (first | refine blk_drewN ?_ _ | refine blk_drew ?_ | refine blk_alloc ?_ _)); exact BK168.out) hb); have n1_ := Aside0.mk (blk_below (g := gb172) (o := .cells #[.int .i64 t170, .int .u64 t171] 24 (0, 0)) (by (with_reducible repeat (first | refine blk_drewN ?_ _ | refine blk_drew ?_ | refine blk_alloc ?_ _)); exact BK172.out) hb); have n2_ := Aside0.mk (blk_below (g := gb180) (o := .cells #[.int .i64 t177, .int .u64 t178] 24 (0, 0)) (by (with_reducible repeat (first | refine blk_drewN ?_ _ | refine blk_drew ?_ | refine blk_alloc ?_ _)); exact BK180.out) hb); have n3_ := Aside0.mk (below_step (by repeat (first | (with_reducible first | exact HB.out | apply below_alloc | apply pw_below_drewN | apply below_drew1 | refine below_set ?_ GE168.out | refine below_set ?_ GE172.out | refine below_set ?_ GE180.out) | exact HB.out)) hb); clear BK168; clear BK172; clear BK180; clear HB; have BK168 := n0_; have BK172 := n1_; have BK180 := n2_; have HB := n3_; clear n0_ n1_ n2_ n3_; (try clear hb); (try clear hb2); (try clear hk); (try clear hi); have hnb111 := NB172_168.out; have hnc111 := NB168_172.out; have hnb112 := NB172_180.out; have hnc112 := NB180_172.out; have hcz113_0 : w110.cell? ⟨gb172, 0, none⟩ = some (.int .i64 t170) := (blk_cell BK172.out 0).trans rfl; have hcz113_1 : w110.cell? ⟨gb172, 1, none⟩ = some (.int .u64 t171) := (blk_cell BK172.out 1).trans rfl; have hfz113_0 := blk_frozen BK172.out 0; have hfz113_1 := blk_frozen BK172.out 1))
                            go_ret
                            exact ⟨by first | rfl | (simp [errW_none, errW_some] <;> rfl) | (simp only [← hji22, ← hji24, ← hji27]; first | rfl | (simp [errW_none, errW_some] <;> rfl)) | (simp [*, errW_none, errW_some] <;> rfl), by repeat (first | (with_reducible first | exact HB.out | apply below_alloc | apply pw_below_drewN | apply below_drew1 | refine below_set ?_ GE168.out | refine below_set ?_ GE172.out | refine below_set ?_ GE180.out) | exact HB.out)⟩
                  · rw [if_neg c53] at H
                    have c53b0 : decide (0 < t170) = false := decide_eq_false c53
                    clear c53
                    replace H := Option.bind_eq_some_iff.mp H
                    obtain ⟨⟨t199, t200⟩, A1140, H⟩ := H
                    replace H : ((place_Sibling.f kj28 t173).bind fun bt201 => (if (t200 == (decide (t170 < 40))) = true then (some (bt201.2 == t200)) else (some false))) = some r := H
                    have A114 := Aside0.mk A1140
                    clear A1140
                    replace H := Option.bind_eq_some_iff.mp H
                    obtain ⟨⟨t201, t202⟩, A1150, H⟩ := H
                    replace H : (if (t200 == (decide (t170 < 40))) = true then (some (t202 == t200)) else (some false)) = some r := H
                    have A115 := Aside0.mk A1150
                    clear A1150
                    by_cases c116 : (t200 == (decide (t170 < 40))) = true
                    · rw [if_pos c116] at H
                      have c116b0 : (t200 == (decide (t170 < 40))) = true := c116
                      (try (have c116b1 : decide (t200 = (decide (t170 < 40))) = true := by simpa using c116))
                      (try (have c116b2 : (t200 == (decide (t170 < 40))) = true := by simpa using c116))
                      clear c116
                      obtain rfl := Option.some.inj H
                      have hnb117 := NB172_168.out
                      have hnc117 := NB168_172.out
                      have hnb118 := NB172_180.out
                      have hnc118 := NB180_172.out
                      have hcz119_0 : wc.cell? ⟨gb172, 0, none⟩ = some (.int .i64 t170) := (blk_cell BK172.out 0).trans rfl
                      have hcz119_1 : wc.cell? ⟨gb172, 1, none⟩ = some (.int .u64 t171) := (blk_cell BK172.out 1).trans rfl
                      have hfz119_0 := blk_frozen BK172.out 0
                      have hfz119_1 := blk_frozen BK172.out 1
                      go_wp2_with (first | ((with_reducible refine gate_callee (f := 25) rfl ?_); refine goesL_ (some 205) rfl rfl Try.func25 (by kernel_rfl) rfl #[.int .u64 t173] rfl (by (try simp only [List.map_toArray, List.map_cons, List.map_nil]); first | done | rfl | (simp only [List.length_drop, List.length_take]; rfl)) ?_; (with_reducible refine (place_Parent.calls kj28 t173 t199 t200 _ A114.out).mono ?_); rintro e w120 ⟨rfl, hb⟩; refine ⟨_, rfl, ?_⟩; have n0_ := Aside0.mk (blk_below (g := gb168) (o := .cells #[.int .i64 a0_0, .int .u64 a0_1] 24 (0, 0)) (by (with_reducible repeat (first | refine blk_drewN ?_ _ | refine blk_drew ?_ | refine blk_alloc ?_ _)); exact BK168.out) hb); have n1_ := Aside0.mk (blk_below (g := gb172) (o := .cells #[.int .i64 t170, .int .u64 t171] 24 (0, 0)) (by (with_reducible repeat (first | refine blk_drewN ?_ _ | refine blk_drew ?_ | refine blk_alloc ?_ _)); exact BK172.out) hb); have n2_ := Aside0.mk (blk_below (g := gb180) (o := .cells #[.int .i64 t177, .int .u64 t178] 24 (0, 0)) (by (with_reducible repeat (first | refine blk_drewN ?_ _ | refine blk_drew ?_ | refine blk_alloc ?_ _)); exact BK180.out) hb); have n3_ := Aside0.mk (below_step (by repeat (first | (with_reducible first | exact HB.out | apply below_alloc | apply pw_below_drewN | apply below_drew1 | refine below_set ?_ GE168.out | refine below_set ?_ GE172.out | refine below_set ?_ GE180.out) | exact HB.out)) hb); clear BK168; clear BK172; clear BK180; clear HB; have BK168 := n0_; have BK172 := n1_; have BK180 := n2_; have HB := n3_; clear n0_ n1_ n2_ n3_; (try clear hb); (try clear hb2); (try clear hk); (try clear hi)) | ((with_reducible refine gate_callee (f := 27) rfl ?_); refine goesL_ (some 210) rfl rfl Try.func27 (by kernel_rfl) rfl #[.int .u64 t173] rfl (by (try simp only [List.map_toArray, List.map_cons, List.map_nil]); first | done | rfl | (simp only [List.length_drop, List.length_take]; rfl)) ?_; (with_reducible refine (place_Sibling.calls kj28 t173 t201 t202 _ A115.out).mono ?_); rintro e w121 ⟨rfl, hb⟩; refine ⟨_, rfl, ?_⟩; have n0_ := Aside0.mk (blk_below (g := gb168) (o := .cells #[.int .i64 a0_0, .int .u64 a0_1] 24 (0, 0)) (by (with_reducible repeat (first | refine blk_drewN ?_ _ | refine blk_drew ?_ | refine blk_alloc ?_ _)); exact BK168.out) hb); have n1_ := Aside0.mk (blk_below (g := gb172) (o := .cells #[.int .i64 t170, .int .u64 t171] 24 (0, 0)) (by (with_reducible repeat (first | refine blk_drewN ?_ _ | refine blk_drew ?_ | refine blk_alloc ?_ _)); exact BK172.out) hb); have n2_ := Aside0.mk (blk_below (g := gb180) (o := .cells #[.int .i64 t177, .int .u64 t178] 24 (0, 0)) (by (with_reducible repeat (first | refine blk_drewN ?_ _ | refine blk_drew ?_ | refine blk_alloc ?_ _)); exact BK180.out) hb); have n3_ := Aside0.mk (below_step (by repeat (first | (with_reducible first | exact HB.out | apply below_alloc | apply pw_below_drewN | apply below_drew1 | refine below_set ?_ GE168.out | refine below_set ?_ GE172.out | refine below_set ?_ GE180.out) | exact HB.out)) hb); clear BK168; clear BK172; clear BK180; clear HB; have BK168 := n0_; have BK172 := n1_; have BK180 := n2_; have HB := n3_; clear n0_ n1_ n2_ n3_; (try clear hb); (try clear hb2); (try clear hk); (try clear hi); have hcz122_0 : w121.cell? ⟨gb172, 0, none⟩ = some (.int .i64 t170) := (blk_cell BK172.out 0).trans rfl; have hcz122_1 : w121.cell? ⟨gb172, 1, none⟩ = some (.int .u64 t171) := (blk_cell BK172.out 1).trans rfl; have hfz122_0 := blk_frozen BK172.out 0; have hfz122_1 := blk_frozen BK172.out 1))
                      go_ret
                      exact ⟨by first | rfl | (simp [errW_none, errW_some] <;> rfl) | (simp only [← hji22, ← hji24, ← hji27]; first | rfl | (simp [errW_none, errW_some] <;> rfl)) | (simp [*, errW_none, errW_some] <;> rfl), by repeat (first | (with_reducible first | exact HB.out | apply below_alloc | apply pw_below_drewN | apply below_drew1 | refine below_set ?_ GE168.out | refine below_set ?_ GE172.out | refine below_set ?_ GE180.out) | exact HB.out)⟩
                    · rw [if_neg c116] at H
                      have c116b0 : (t200 == (decide (t170 < 40))) = false := by simpa using c116
                      (try (have c116b1 : decide (t200 = (decide (t170 < 40))) = false := by simpa using c116))
                      (try (have c116b2 : (t200 == (decide (t170 < 40))) = false := by simpa using c116))
                      (try (have c116b3 : ¬ (t200 = (decide (t170 < 40))) := by simpa using c116))
                      clear c116
                      obtain rfl := Option.some.inj H
                      have hnb123 := NB172_168.out
                      have hnc123 := NB168_172.out
                      have hnb124 := NB172_180.out
                      have hnc124 := NB180_172.out
                      have hcz125_0 : wc.cell? ⟨gb172, 0, none⟩ = some (.int .i64 t170) := (blk_cell BK172.out 0).trans rfl
                      have hcz125_1 : wc.cell? ⟨gb172, 1, none⟩ = some (.int .u64 t171) := (blk_cell BK172.out 1).trans rfl
                      have hfz125_0 := blk_frozen BK172.out 0
                      have hfz125_1 := blk_frozen BK172.out 1
                      go_wp2_with (first | ((with_reducible refine gate_callee (f := 25) rfl ?_); refine goesL_ (some 205) rfl rfl Try.func25 (by kernel_rfl) rfl #[.int .u64 t173] rfl (by (try simp only [List.map_toArray, List.map_cons, List.map_nil]); first | done | rfl | (simp only [List.length_drop, List.length_take]; rfl)) ?_; (with_reducible refine (place_Parent.calls kj28 t173 t199 t200 _ A114.out).mono ?_); rintro e w126 ⟨rfl, hb⟩; refine ⟨_, rfl, ?_⟩; have n0_ := Aside0.mk (blk_below (g := gb168) (o := .cells #[.int .i64 a0_0, .int .u64 a0_1] 24 (0, 0)) (by (with_reducible repeat (first | refine blk_drewN ?_ _ | refine blk_drew ?_ | refine blk_alloc ?_ _)); exact BK168.out) hb); have n1_ := Aside0.mk (blk_below (g := gb172) (o := .cells #[.int .i64 t170, .int .u64 t171] 24 (0, 0)) (by (with_reducible repeat (first | refine blk_drewN ?_ _ | refine blk_drew ?_ | refine blk_alloc ?_ _)); exact BK172.out) hb); have n2_ := Aside0.mk (blk_below (g := gb180) (o := .cells #[.int .i64 t177, .int .u64 t178] 24 (0, 0)) (by (with_reducible repeat (first | refine blk_drewN ?_ _ | refine blk_drew ?_ | refine blk_alloc ?_ _)); exact BK180.out) hb); have n3_ := Aside0.mk (below_step (by repeat (first | (with_reducible first | exact HB.out | apply below_alloc | apply pw_below_drewN | apply below_drew1 | refine below_set ?_ GE168.out | refine below_set ?_ GE172.out | refine below_set ?_ GE180.out) | exact HB.out)) hb); clear BK168; clear BK172; clear BK180; clear HB; have BK168 := n0_; have BK172 := n1_; have BK180 := n2_; have HB := n3_; clear n0_ n1_ n2_ n3_; (try clear hb); (try clear hb2); (try clear hk); (try clear hi)) | ((with_reducible refine gate_callee (f := 27) rfl ?_); refine goesL_ (some 210) rfl rfl Try.func27 (by kernel_rfl) rfl #[.int .u64 t173] rfl (by (try simp only [List.map_toArray, List.map_cons, List.map_nil]); first | done | rfl | (simp only [List.length_drop, List.length_take]; rfl)) ?_; (with_reducible refine (place_Sibling.calls kj28 t173 t201 t202 _ A115.out).mono ?_); rintro e w127 ⟨rfl, hb⟩; refine ⟨_, rfl, ?_⟩; have n0_ := Aside0.mk (blk_below (g := gb168) (o := .cells #[.int .i64 a0_0, .int .u64 a0_1] 24 (0, 0)) (by (with_reducible repeat (first | refine blk_drewN ?_ _ | refine blk_drew ?_ | refine blk_alloc ?_ _)); exact BK168.out) hb); have n1_ := Aside0.mk (blk_below (g := gb172) (o := .cells #[.int .i64 t170, .int .u64 t171] 24 (0, 0)) (by (with_reducible repeat (first | refine blk_drewN ?_ _ | refine blk_drew ?_ | refine blk_alloc ?_ _)); exact BK172.out) hb); have n2_ := Aside0.mk (blk_below (g := gb180) (o := .cells #[.int .i64 t177, .int .u64 t178] 24 (0, 0)) (by (with_reducible repeat (first | refine blk_drewN ?_ _ | refine blk_drew ?_ | refine blk_alloc ?_ _)); exact BK180.out) hb); have n3_ := Aside0.mk (below_step (by repeat (first | (with_reducible first | exact HB.out | apply below_alloc | apply pw_below_drewN | apply below_drew1 | refine below_set ?_ GE168.out | refine below_set ?_ GE172.out | refine below_set ?_ GE180.out) | exact HB.out)) hb); clear BK168; clear BK172; clear BK180; clear HB; have BK168 := n0_; have BK172 := n1_; have BK180 := n2_; have HB := n3_; clear n0_ n1_ n2_ n3_; (try clear hb); (try clear hb2); (try clear hk); (try clear hi); have hcz128_0 : w127.cell? ⟨gb172, 0, none⟩ = some (.int .i64 t170) := (blk_cell BK172.out 0).trans rfl; have hcz128_1 : w127.cell? ⟨gb172, 1, none⟩ = some (.int .u64 t171) := (blk_cell BK172.out 1).trans rfl; have hfz128_0 := blk_frozen BK172.out 0; have hfz128_1 := blk_frozen BK172.out 1))
                      go_ret
                      exact ⟨by first | rfl | (simp [errW_none, errW_some] <;> rfl) | (simp only [← hji22, ← hji24, ← hji27]; first | rfl | (simp [errW_none, errW_some] <;> rfl)) | (simp [*, errW_none, errW_some] <;> rfl), by repeat (first | (with_reducible first | exact HB.out | apply below_alloc | apply pw_below_drewN | apply below_drew1 | refine below_set ?_ GE168.out | refine below_set ?_ GE172.out | refine below_set ?_ GE180.out) | exact HB.out)⟩
          · rw [if_neg c23] at H
            exact absurd H (by simp)
  · replace c3 := Bool.eq_false_iff.mpr c3
    subst c3
    have H1 : (some false) = some r := by rw [if_neg (show ¬ (false = true) by decide)] at H; exact H
    clear H
    have H := H1
    clear H1
    obtain rfl := Option.some.inj H
    go_enter Try.func6, Try.ntmps6
    go_wp2_with (first | ((with_reducible refine gate_dst (N := 1) rfl ?_); refine box_event ?hg (N := 1) ?hd (cs := #[.int .i64 a0_0, .int .u64 a0_1]) (t := 24) ?hr ?_; (case hd => rfl); (case hg => rfl); (case hr => first | (go_simp; done) | (go_simp; rfl)); intro gb168 hg w129 hbox hb; have n0_ := Aside0.mk (below_step (by repeat (first | (with_reducible first | exact HB.out | apply below_alloc | apply pw_below_drewN | apply below_drew1) | exact HB.out)) hb); have n1_ := Aside0.mk (hbox); have n2_ := Aside0.mk ((by rw [hg]; exact (below_size (by repeat (first | (with_reducible first | exact HB.out | apply below_alloc | apply pw_below_drewN | apply below_drew1) | exact HB.out))) : w.heap.size ≤ gb168)); have n3_ := Aside0.mk ((by rw [hg]; exact (below_size (by repeat (first | (with_reducible first | exact HB.out | apply below_alloc | apply pw_below_drewN | apply below_drew1) | exact HB.out))) : w.heap.size ≤ gb168)); clear HB; have HB := n0_; have BK168 := n1_; have GW168 := n2_; have GE168 := n3_; clear n0_ n1_ n2_ n3_; clear hb hbox hg) | ((with_reducible refine gate_callee (f := 11) rfl ?_); refine goesL_ (some 29) rfl rfl Try.func11 (by kernel_rfl) rfl #[] rfl (by (try simp only [List.map_toArray, List.map_cons, List.map_nil]); first | done | rfl | (simp only [List.length_drop, List.length_take]; rfl)) ?_; (with_reducible refine (massiflaw03_alive.calls k  false _ A2.out).mono ?_); rintro e w130 ⟨rfl, hb⟩; refine ⟨_, rfl, ?_⟩; have n0_ := Aside0.mk (blk_below (g := gb168) (o := .cells #[.int .i64 a0_0, .int .u64 a0_1] 24 (0, 0)) (by (with_reducible repeat (first | refine blk_drewN ?_ _ | refine blk_drew ?_ | refine blk_alloc ?_ _)); exact BK168.out) hb); have n1_ := Aside0.mk (below_step (by repeat (first | (with_reducible first | exact HB.out | apply below_alloc | apply pw_below_drewN | apply below_drew1 | refine below_set ?_ GE168.out) | exact HB.out)) hb); clear BK168; clear HB; have BK168 := n0_; have HB := n1_; clear n0_ n1_; (try clear hb); (try clear hb2); (try clear hk); (try clear hi)))
    go_ret
    exact ⟨by first | rfl | (simp [errW_none, errW_some] <;> rfl) | (simp [*, errW_none, errW_some] <;> rfl), by repeat (first | (with_reducible first | exact HB.out | apply below_alloc | apply pw_below_drewN | apply below_drew1 | refine below_set ?_ GE168.out) | exact HB.out)⟩

end Go.Proofs.Ytlbehenaoiddkaa.PPlacePostorder
