/- Written by a program of this session over the translation: functions, their walks, rows. No condition beyond those that each theorem names. -/
import Derived.Test.YtalhbgokelodoaaPWireReadsx0
namespace Go.Proofs.Ytalhbgokelodoaa.PWireReads
open Go.RowKit Go.Proofs.YtalhbgokelodoaaW.PrintWords Go.Proofs.YtalhbgokelodoaaW.PrintLast Go.Proofs.YtalhbgokelodoaaW.PrintMore
attribute [local go_sem] max2_int min2_int max_two min_two max_three min_three max_four min_four   -- for this text's walks alone
set_option linter.unusedVariables false
set_option linter.unusedSimpArgs false

/-! ### massifref06_Reader_Number: function 9 -/
mutual
def massifref06_Reader_Number.l0 : Nat → Int → Int → Int → ByteArray → Int → Int → Option (ByteArray × Int × Int × Int × Int)
  | 0, _, _, _, _, _, _ => none
  | k + 1, x5, x6, x7, x160000, x160001, x160002 => if (wrap64 (x160001 + x7)) ≥ (x160000.size : Int) then (some (x160000, x160001, 60, 0, 60)) else (if 0 ≤ (wrap64 (x160001 + x7)) then (if (wrap64 (x160001 + x7)) < (x160000.size : Int) then (if x7 = 9 then (if (bt x160000 (wrap64 (x160001 + x7))) > 1 then (massifref06_Reader_Number.j1 k x5 x6 x7 (bt x160000 (wrap64 (x160001 + x7))) true x160000 x160001 x160002) else (if x7 > 0 then (massifref06_Reader_Number.j1 k x5 x6 x7 (bt x160000 (wrap64 (x160001 + x7))) ((bt x160000 (wrap64 (x160001 + x7))) == 0) x160000 x160001 x160002) else (massifref06_Reader_Number.j1 k x5 x6 x7 (bt x160000 (wrap64 (x160001 + x7))) false x160000 x160001 x160002))) else (if x7 > 0 then (massifref06_Reader_Number.j1 k x5 x6 x7 (bt x160000 (wrap64 (x160001 + x7))) ((bt x160000 (wrap64 (x160001 + x7))) == 0) x160000 x160001 x160002) else (massifref06_Reader_Number.j1 k x5 x6 x7 (bt x160000 (wrap64 (x160001 + x7))) false x160000 x160001 x160002))) else (none)) else (none))
def massifref06_Reader_Number.j1 : Nat → Int → Int → Int → Int → Bool → ByteArray → Int → Int → Option (ByteArray × Int × Int × Int × Int)
  | 0, _, _, _, _, _, _, _, _ => none
  | k + 1, x5, x6, x7, x8, x49, x160000, x160001, x160002 => if x49 = true then (some (x160000, x160001, 61, 0, 61)) else (if x8 < 128 then (some (x160000, wrap64 ((wrap64 (x160001 + x7)) + 1), x160002, IntKind.u64.wrap (x5 + (IntKind.u64.wrap (x6 * (IntKind.u64.wrap (Int.tmod x8 128))))), 0)) else (massifref06_Reader_Number.l0 k (IntKind.u64.wrap (x5 + (IntKind.u64.wrap (x6 * (IntKind.u64.wrap (Int.tmod x8 128)))))) (IntKind.u64.wrap (x6 * 128)) (wrap64 (x7 + 1)) x160000 x160001 x160002))
end
def massifref06_Reader_Number.f (k : Nat) (a0_0 : ByteArray) (a0_1 : Int) (a0_2 : Int) : Option (ByteArray × Int × Int × Int × Int) := if a0_2 = 0 then (massifref06_Reader_Number.l0 k 0 1 0 a0_0 a0_1 a0_2) else (some (a0_0, a0_1, a0_2, 0, a0_2))
theorem massifref06_Reader_Number.mono_l : ∀ k, (∀ y0 y1 y2 y3 y4 y5, LeO (massifref06_Reader_Number.l0 k y0 y1 y2 y3 y4 y5) (massifref06_Reader_Number.l0 (k + 1) y0 y1 y2 y3 y4 y5)) ∧ (∀ y0 y1 y2 y3 y4 y5 y6 y7, LeO (massifref06_Reader_Number.j1 k y0 y1 y2 y3 y4 y5 y6 y7) (massifref06_Reader_Number.j1 (k + 1) y0 y1 y2 y3 y4 y5 y6 y7))
  | 0 => ⟨fun _ _ _ _ _ _ r h => by simp [massifref06_Reader_Number.l0] at h, fun _ _ _ _ _ _ _ _ r h => by simp [massifref06_Reader_Number.j1] at h⟩
  | k + 1 => by
    obtain ⟨ih0, ih1⟩ := massifref06_Reader_Number.mono_l k
    refine ⟨?_, ?_⟩
    · intro y0 y1 y2 y3 y4 y5
      unfold massifref06_Reader_Number.l0
      repeat' first
      | (with_reducible exact ih0 _ _ _ _ _ _)
      | (with_reducible exact ih1 _ _ _ _ _ _ _ _)
      | (with_reducible exact LeO.refl _)
      | (with_reducible exact LeO.none _)
      | (with_reducible refine LeO.ite ?_ ?_)
      | (with_reducible refine LeO.bind ?_ (fun _ => ?_))
      | exact ih0 _ _ _ _ _ _
      | exact ih1 _ _ _ _ _ _ _ _
      | exact LeO.none _
      | refine LeO.ite ?_ ?_
      | refine LeO.bind ?_ (fun _ => ?_)
    · intro y0 y1 y2 y3 y4 y5 y6 y7
      unfold massifref06_Reader_Number.j1
      repeat' first
      | (with_reducible exact ih0 _ _ _ _ _ _)
      | (with_reducible exact ih1 _ _ _ _ _ _ _ _)
      | (with_reducible exact LeO.refl _)
      | (with_reducible exact LeO.none _)
      | (with_reducible refine LeO.ite ?_ ?_)
      | (with_reducible refine LeO.bind ?_ (fun _ => ?_))
      | exact ih0 _ _ _ _ _ _
      | exact ih1 _ _ _ _ _ _ _ _
      | exact LeO.none _
      | refine LeO.ite ?_ ?_
      | refine LeO.bind ?_ (fun _ => ?_)
theorem massifref06_Reader_Number.mono : ∀ a0 a1 a2 k, LeO (massifref06_Reader_Number.f k a0 a1 a2) (massifref06_Reader_Number.f (k + 1) a0 a1 a2) := by
  intro a0 a1 a2 k
  obtain ⟨ih0, ih1⟩ := massifref06_Reader_Number.mono_l k
  unfold massifref06_Reader_Number.f
  repeat' first
      | (with_reducible exact ih0 _ _ _ _ _ _)
      | (with_reducible exact ih1 _ _ _ _ _ _ _ _)
      | (with_reducible exact LeO.refl _)
      | (with_reducible exact LeO.none _)
      | (with_reducible refine LeO.ite ?_ ?_)
      | (with_reducible refine LeO.bind ?_ (fun _ => ?_))
      | exact ih0 _ _ _ _ _ _
      | exact ih1 _ _ _ _ _ _ _ _
      | exact LeO.none _
      | refine LeO.ite ?_ ?_
      | refine LeO.bind ?_ (fun _ => ?_)
set_option maxHeartbeats 8000000 in
set_option maxRecDepth 100000 in
theorem massifref06_Reader_Number.calls (k : Nat) (a0_0 : ByteArray) (a0_1 : Int) (a0_2 : Int) (r1 : ByteArray) (r2 : Int) (r3 : Int) (r4 : Int) (r5 : Int) (w : World) (h : massifref06_Reader_Number.f k a0_0 a0_1 a0_2 = some (r1, r2, r3, r4, r5)) :
    Calls Try.prog 9 #[.agg #[.string a0_0, .int .i64 a0_1, .int .i64 a0_2]] w fun e w' => e = .returned (.tuple #[.agg #[.string r1, .int .i64 r2, .int .i64 r3], .int .u64 r4, .int .i64 r5]) ∧ Below w.heap.size w w' := by
  have hu31 := Try.underlying31
  have HB := Aside0.mk (Below.refl w.heap.size w)
  have H : (if a0_2 = 0 then (massifref06_Reader_Number.l0 k 0 1 0 a0_0 a0_1 a0_2) else (some (a0_0, a0_1, a0_2, 0, a0_2))) = some (r1, r2, r3, r4, r5) := h
  clear h
  by_cases c2 : a0_2 = 0
  · rw [if_pos c2] at H
    have c2b0 : (a0_2 == 0) = true := beq_iff_eq.mpr c2
    have c2b1 : (a0_2 != 0) = false := bne_eq_false_iff_eq.mpr c2
    clear c2
    have H' := Aside0.mk H
    clear H
    go_enter Try.func9, Try.ntmps9
    go_wp2_with (first | ((with_reducible refine gate_dst (N := 1) rfl ?_); refine box_event ?hg (N := 1) ?hd (cs := #[.string a0_0, .int .i64 a0_1, .int .i64 a0_2]) (t := 31) ?hr ?_; (case hd => rfl); (case hg => rfl); (case hr => first | (go_simp; done) | (go_simp; rfl)); intro gb159 hg w3 hbox hb; have n0_ := Aside0.mk (below_step (by repeat (first | (with_reducible first | exact HB.out | apply below_alloc | apply pw_below_drewN | apply below_drew1) | exact HB.out)) hb); have n1_ := Aside0.mk (hbox); have n2_ := Aside0.mk ((by rw [hg]; exact (below_size (by repeat (first | (with_reducible first | exact HB.out | apply below_alloc | apply pw_below_drewN | apply below_drew1) | exact HB.out))) : w.heap.size ≤ gb159)); have n3_ := Aside0.mk ((by rw [hg]; exact (below_size (by repeat (first | (with_reducible first | exact HB.out | apply below_alloc | apply pw_below_drewN | apply below_drew1) | exact HB.out))) : w.heap.size ≤ gb159)); clear HB; have HB := n0_; have BK159 := n1_; have GW159 := n2_; have GE159 := n3_; clear n0_ n1_ n2_ n3_; clear hb hbox hg) | ((with_reducible refine gate_dst (N := 2) rfl ?_); refine box_event ?hg (N := 2) ?hd (cs := #[.string (⟨#[]⟩ : ByteArray), .int .i64 0, .int .i64 0]) (t := 31) ?hr ?_; (case hd => rfl); (case hg => rfl); (case hr => first | (go_simp; done) | (go_simp; rfl)); intro gb160 hg w4 hbox hb; have n0_ := Aside0.mk (blk_below (g := gb159) (o := .cells #[.string a0_0, .int .i64 a0_1, .int .i64 a0_2] 31 (0, 0)) (by (with_reducible repeat (first | refine blk_drewN ?_ _ | refine blk_drew ?_ | refine blk_alloc ?_ _)); exact BK159.out) hb); have n1_ := Aside0.mk (below_step (by repeat (first | (with_reducible first | exact HB.out | apply below_alloc | apply pw_below_drewN | apply below_drew1 | refine below_set ?_ GE159.out) | exact HB.out)) hb); have n2_ := Aside0.mk (hbox); have n3_ := Aside0.mk ((by rw [hg]; exact (below_size (by repeat (first | (with_reducible first | exact HB.out | apply below_alloc | apply pw_below_drewN | apply below_drew1 | refine below_set ?_ GE159.out) | exact HB.out))) : w.heap.size ≤ gb160)); have n4_ := Aside0.mk ((by rw [hg]; exact (below_size (by repeat (first | (with_reducible first | exact HB.out | apply below_alloc | apply pw_below_drewN | apply below_drew1 | refine below_set ?_ GE159.out) | exact HB.out))) : w.heap.size ≤ gb160)); have n5_ := Aside0.mk ((by rw [hg]; exact Nat.ne_of_lt (blk_lt (g := gb159) (o := .cells #[.string a0_0, .int .i64 a0_1, .int .i64 a0_2] 31 (0, 0)) (by (with_reducible repeat (first | refine blk_drewN ?_ _ | refine blk_drew ?_ | refine blk_alloc ?_ _)); exact BK159.out)) : gb159 ≠ gb160)); have n6_ := Aside0.mk ((by rw [hg]; exact Nat.ne_of_gt (blk_lt (g := gb159) (o := .cells #[.string a0_0, .int .i64 a0_1, .int .i64 a0_2] 31 (0, 0)) (by (with_reducible repeat (first | refine blk_drewN ?_ _ | refine blk_drew ?_ | refine blk_alloc ?_ _)); exact BK159.out)) : gb160 ≠ gb159)); clear BK159; clear HB; have BK159 := n0_; have HB := n1_; have BK160 := n2_; have GW160 := n3_; have GE160 := n4_; have NB159_160 := n5_; have NB160_159 := n6_; clear n0_ n1_ n2_ n3_ n4_ n5_ n6_; clear hb hbox hg; have hnb5 := NB159_160.out; have hnc5 := NB160_159.out; have hcz6_0 : w4.cell? ⟨gb159, 0, none⟩ = some (.string a0_0) := (blk_cell BK159.out 0).trans rfl; have hcz6_1 : w4.cell? ⟨gb159, 1, none⟩ = some (.int .i64 a0_1) := (blk_cell BK159.out 1).trans rfl; have hcz6_2 : w4.cell? ⟨gb159, 2, none⟩ = some (.int .i64 a0_2) := (blk_cell BK159.out 2).trans rfl; have hfz6_0 := blk_frozen BK159.out 0; have hfz6_1 := blk_frozen BK159.out 1; have hfz6_2 := blk_frozen BK159.out 2))
    go_loopg [5, 6, 7] k (fun kq v5 v6 v7 w' => ∃ (x5_1 : Int) (x6_1 : Int) (x7_1 : Int) (x160001_1 : Int) (x160002_1 : Int) (x161000_1 : ByteArray) (x161001_1 : Int) (x161002_1 : Int), v5 = .int .u64 x5_1 ∧ v6 = .int .u64 x6_1 ∧ v7 = .int .i64 x7_1 ∧ Aside0 (massifref06_Reader_Number.l0 kq x5_1 x6_1 x7_1 a0_0 x160001_1 x160002_1 = some (r1, r2, r3, r4, r5)) ∧ Aside0 (kq ≤ k) ∧ Aside0 (w'.heap[gb159]? = some (.cells #[.string a0_0, .int .i64 x160001_1, .int .i64 x160002_1] 31 (0, 0))) ∧ Aside0 (w'.heap[gb160]? = some (.cells #[.string x161000_1, .int .i64 x161001_1, .int .i64 x161002_1] 31 (0, 0))) ∧ Aside0 (Below w.heap.size w w'))
    case atStart => exact ⟨(0), (1), (0), (a0_1), (a0_2), ((⟨#[]⟩ : ByteArray)), (0), (0), (by first | rfl | (simp; done) | (simp [*]; done)), (by first | rfl | (simp; done) | (simp [*]; done)), (by first | rfl | (simp; done) | (simp [*]; done)), H', ⟨Nat.le_refl _⟩, ⟨by (with_reducible repeat (first | refine blk_drewN ?_ _ | refine blk_drew ?_ | refine blk_alloc ?_ _)); exact BK159.out⟩, ⟨by (with_reducible repeat (first | refine blk_drewN ?_ _ | refine blk_drew ?_ | refine blk_alloc ?_ _)); exact BK160.out⟩, ⟨by repeat (first | (with_reducible first | exact HB.out | apply below_alloc | apply pw_below_drewN | apply below_drew1 | refine below_set ?_ GE159.out | refine below_set ?_ GE160.out) | exact HB.out)⟩⟩
    case round =>
      clear H'
      try clear c2
      try clear c2b0
      try clear c2b1
      try clear p2
      try clear c5
      try clear hcz6_0
      try clear hcz6_1
      try clear hcz6_2
      try clear hfz6_0
      try clear hfz6_1
      try clear hfz6_2
      obtain ⟨x5_1, x6_1, x7_1, x160001_1, x160002_1, x161000_1, x161001_1, x161002_1, rfl, rfl, rfl, HA, HK1, BK159, BK160, HB⟩ := hrel
      cases gk with
      | zero => exact absurd HA.out (by simp [massifref06_Reader_Number.l0])
      | succ k1 =>
        have H := HA.out
        clear HA
        simp only [massifref06_Reader_Number.l0] at H
        by_cases c7 : (wrap64 (x160001_1 + x7_1)) ≥ (a0_0.size : Int)
        · rw [if_pos c7] at H
          have c7b0 : decide ((a0_0.size : Int) ≤ (wrap64 (x160001_1 + x7_1))) = true := decide_eq_true c7
          clear c7
          simp only [Option.some.injEq, Prod.mk.injEq] at H
          obtain ⟨rfl, rfl, rfl, rfl, rfl⟩ := H
          have hnb8 := NB159_160.out
          have hnc8 := NB160_159.out
          have hcz9_0 : wr.cell? ⟨gb159, 0, none⟩ = some (.string a0_0) := (blk_cell BK159.out 0).trans rfl
          have hcz9_1 : wr.cell? ⟨gb159, 1, none⟩ = some (.int .i64 x160001_1) := (blk_cell BK159.out 1).trans rfl
          have hcz9_2 : wr.cell? ⟨gb159, 2, none⟩ = some (.int .i64 x160002_1) := (blk_cell BK159.out 2).trans rfl
          have hfz9_0 := blk_frozen BK159.out 0
          have hfz9_1 := blk_frozen BK159.out 1
          have hfz9_2 := blk_frozen BK159.out 2
          try go_wp2
          have n0_ : Aside0 ((wr.setCell ⟨gb159, 2, none⟩ (.int .i64 60)).heap[gb159]? = some (.cells #[.string a0_0, .int .i64 x160001_1, .int .i64 60] 31 (0, 0))) := ⟨by (with_reducible repeat (first | refine blk_drewN ?_ _ | refine blk_drew ?_ | refine blk_alloc ?_ _)); refine blk_put (cs := #[.string a0_0, .int .i64 x160001_1, .int .i64 x160002_1]) ?_ 2 _ rfl; (with_reducible repeat (first | refine blk_drewN ?_ _ | refine blk_drew ?_ | refine blk_alloc ?_ _)); exact BK159.out⟩
          have n1_ : Aside0 ((wr.setCell ⟨gb159, 2, none⟩ (.int .i64 60)).heap[gb160]? = some (.cells #[.string x161000_1, .int .i64 x161001_1, .int .i64 x161002_1] 31 (0, 0))) := ⟨by (with_reducible repeat (first | refine blk_drewN ?_ _ | refine blk_drew ?_ | refine blk_alloc ?_ _)); refine blk_far ?_ NB160_159.out _; (with_reducible repeat (first | refine blk_drewN ?_ _ | refine blk_drew ?_ | refine blk_alloc ?_ _)); exact BK160.out⟩
          have n2_ : Aside0 (Below w.heap.size w (wr.setCell ⟨gb159, 2, none⟩ (.int .i64 60))) := ⟨by repeat (first | (with_reducible first | exact HB.out | apply below_alloc | apply pw_below_drewN | apply below_drew1 | refine below_set ?_ GE159.out | refine below_set ?_ GE160.out) | exact HB.out)⟩
          (try clear BK159)
          (try clear BK160)
          (try clear HB)
          generalize (wr.setCell ⟨gb159, 2, none⟩ (.int .i64 60)) = w10 at n0_ n1_ n2_ ⊢
          have BK159 := n0_
          have BK160 := n1_
          have HB := n2_
          clear n0_ n1_ n2_
          have n0_ := Aside0.mk (blk_drew BK159.out)
          have n1_ := Aside0.mk (blk_drew BK160.out)
          have n2_ := Aside0.mk (below_drew1 HB.out)
          clear BK159
          clear BK160
          clear HB
          have BK159 := n0_
          have BK160 := n1_
          have HB := n2_
          clear n0_ n1_ n2_
          refine start_ (n := 6) (S := fun w' => w'.cell? ⟨gb159, 0, none⟩ = some (.string a0_0) ∧ w'.cell? ⟨gb159, 1, none⟩ = some (.int .i64 x160001_1) ∧ w'.cell? ⟨gb159, 2, none⟩ = some (.int .i64 60)) (ds := []) #[false, false, false, false, false, false] (by kernel_rfl) rfl rfl ⟨(blk_cell BK159.out 0).trans rfl, (blk_cell BK159.out 1).trans rfl, (blk_cell BK159.out 2).trans rfl⟩ (fun hHeld => ?_)
          generalize w10.drew = w11 at BK159 BK160 HB hHeld ⊢
          refine pure_ (i := 1) (N := some 27) (v := ?_) (a' := ?_) #[false, true, false, false, false, false] rfl rfl (by kernel_rfl) (fun _ _ _ h => h) (Or.inl ⟨by rfl, ?_⟩) ?_ ?_
          rotate_left
          · intro w'
            go_simp
            with_reducible rfl
          rotate_left
          · simp only [Act.put, List.setIfInBounds_toArray, List.set_cons_zero, List.set_cons_succ, i64_w, i32_w]
            rfl
          refine take_ (i := 0) (N := some 26) (v := ?_) (a' := ?_) #[true, true, false, false, false, false] rfl rfl (by kernel_rfl) (fun _ _ _ h => h) (Or.inl ⟨by rfl, ?_⟩) hHeld ?_ ?_
          rotate_left
          · rintro w' ⟨s0, s1, s2⟩
            go_simp
            with_reducible rfl
          rotate_left
          · simp only [Act.put, List.setIfInBounds_toArray, List.set_cons_zero, List.set_cons_succ, i64_w, i32_w]
            rfl
          refine take_ (i := 2) (N := some 28) (v := ?_) (a' := ?_) #[true, true, true, false, false, false] rfl rfl (by kernel_rfl) (fun _ _ _ h => h) (Or.inl ⟨by rfl, ?_⟩) hHeld ?_ ?_
          rotate_left
          · rintro w' ⟨s0, s1, s2⟩
            go_simp
            with_reducible rfl
          rotate_left
          · simp only [Act.put, List.setIfInBounds_toArray, List.set_cons_zero, List.set_cons_succ, i64_w, i32_w]
            rfl
          refine one_ (i := 3) (N := none) #[true, true, true, true, false, false] rfl rfl (by kernel_rfl) (by decide) (fun K hK => ?_)
          have hs12 : w11.cell? ⟨gb160, 0, none⟩ = some (.string x161000_1) := (blk_cell BK160.out 0).trans rfl
          have hfs12 := blk_frozen BK160.out 0
          have hns12_0 := NB159_160.out
          have hms12_0 := NB160_159.out
          have hs13 : w11.cell? ⟨gb160, 1, none⟩ = some (.int .i64 x161001_1) := (blk_cell BK160.out 1).trans rfl
          have hfs13 := blk_frozen BK160.out 1
          have hns13_0 := NB159_160.out
          have hms13_0 := NB160_159.out
          have hs14 : w11.cell? ⟨gb160, 2, none⟩ = some (.int .i64 x161002_1) := (blk_cell BK160.out 2).trans rfl
          have hfs14 := blk_frozen BK160.out 2
          have hns14_0 := NB159_160.out
          have hms14_0 := NB160_159.out
          refine skip_ (w1 := ?_) (by rfl) rfl ?_ ?_
          rotate_left
          · go_simp
            rfl
          refine hK.out _ _ ⟨((cell_far (p := ⟨gb160, _, none⟩) NB159_160.out _).trans (((cell_far (p := ⟨gb160, _, none⟩) NB159_160.out _).trans (((cell_far (p := ⟨gb160, _, none⟩) NB159_160.out _).trans (hHeld.1)))))), ((cell_far (p := ⟨gb160, _, none⟩) NB159_160.out _).trans (((cell_far (p := ⟨gb160, _, none⟩) NB159_160.out _).trans (((cell_far (p := ⟨gb160, _, none⟩) NB159_160.out _).trans (hHeld.2.1)))))), ((cell_far (p := ⟨gb160, _, none⟩) NB159_160.out _).trans (((cell_far (p := ⟨gb160, _, none⟩) NB159_160.out _).trans (((cell_far (p := ⟨gb160, _, none⟩) NB159_160.out _).trans (hHeld.2.2))))))⟩ (fun hHeld => ?_)
          clear hK K
          refine pure_ (i := 4) (N := some 3) (v := ?_) (a' := ?_) #[true, true, true, true, true, false] rfl rfl (by kernel_rfl) (fun _ _ _ h => h) (Or.inl ⟨by rfl, ?_⟩) ?_ ?_
          rotate_left
          · intro w'
            go_simp
            with_reducible rfl
          rotate_left
          · simp only [Act.put, List.setIfInBounds_toArray, List.set_cons_zero, List.set_cons_succ, i64_w, i32_w]
            rfl
          refine pure_ (i := 5) (N := some 4) (v := ?_) (a' := ?_) #[true, true, true, true, true, true] rfl rfl (by kernel_rfl) (fun _ _ _ h => h) (Or.inl ⟨by rfl, ?_⟩) ?_ ?_
          rotate_left
          · intro w'
            go_simp
            with_reducible rfl
          rotate_left
          · simp only [Act.put, List.setIfInBounds_toArray, List.set_cons_zero, List.set_cons_succ, i64_w, i32_w]
            rfl
          refine done_ (by kernel_rfl) ?_
          try go_wp2
          refine bodyPost_ret (results_ctt rfl _ _ gb160 31 #[.string a0_0, .int .i64 x160001_1, .int .i64 60] (0, 0) _ rfl (by (with_reducible repeat (first | refine blk_drewN ?_ _ | refine blk_drew ?_ | refine blk_alloc ?_ _)); refine blk_put (cs := #[.string a0_0, .int .i64 x160001_1, .int .i64 x161002_1]) ?_ 2 _ rfl; (with_reducible repeat (first | refine blk_drewN ?_ _ | refine blk_drew ?_ | refine blk_alloc ?_ _)); refine blk_put (cs := #[.string a0_0, .int .i64 x161001_1, .int .i64 x161002_1]) ?_ 1 _ rfl; (with_reducible repeat (first | refine blk_drewN ?_ _ | refine blk_drew ?_ | refine blk_alloc ?_ _)); refine blk_put (cs := #[.string x161000_1, .int .i64 x161001_1, .int .i64 x161002_1]) ?_ 0 _ rfl; (with_reducible repeat (first | refine blk_drewN ?_ _ | refine blk_drew ?_ | refine blk_alloc ?_ _)); exact BK160.out) Try.underlying31 rfl (by kernel_rfl)) rfl ?_
          exact ⟨by first | rfl | (simp [errW_none, errW_some] <;> rfl) | (simp [*, errW_none, errW_some] <;> rfl), by repeat (first | (with_reducible first | exact HB.out | apply below_alloc | apply pw_below_drewN | apply below_drew1 | refine below_set ?_ GE159.out | refine below_set ?_ GE160.out) | exact HB.out)⟩
        · rw [if_neg c7] at H
          have c7b0 : decide ((a0_0.size : Int) ≤ (wrap64 (x160001_1 + x7_1))) = false := decide_eq_false c7
          clear c7
          obtain ⟨ji15, hji15⟩ : ∃ j_ : Int, (wrap64 (x160001_1 + x7_1)) = j_ := ⟨_, rfl⟩
          replace H : (if 0 ≤ (ji15) then (if (ji15) < (a0_0.size : Int) then (if x7_1 = 9 then (if (bt a0_0 (ji15)) > 1 then (massifref06_Reader_Number.j1 k1 x5_1 x6_1 x7_1 (bt a0_0 (ji15)) true a0_0 x160001_1 x160002_1) else (if x7_1 > 0 then (massifref06_Reader_Number.j1 k1 x5_1 x6_1 x7_1 (bt a0_0 (ji15)) ((bt a0_0 (ji15)) == 0) a0_0 x160001_1 x160002_1) else (massifref06_Reader_Number.j1 k1 x5_1 x6_1 x7_1 (bt a0_0 (ji15)) false a0_0 x160001_1 x160002_1))) else (if x7_1 > 0 then (massifref06_Reader_Number.j1 k1 x5_1 x6_1 x7_1 (bt a0_0 (ji15)) ((bt a0_0 (ji15)) == 0) a0_0 x160001_1 x160002_1) else (massifref06_Reader_Number.j1 k1 x5_1 x6_1 x7_1 (bt a0_0 (ji15)) false a0_0 x160001_1 x160002_1))) else (none)) else (none)) = some (r1, r2, r3, r4, r5) := by first | (rw [hji15] at H; exact H) | (simp only [hji15] at H ⊢; exact H)
          (try rw [hji15] at c7b0)
          have hji15w : (IntKind.i64.wrap (x160001_1 + x7_1)) = ji15 := (i64_w _).trans hji15
          by_cases c16 : 0 ≤ (ji15)
          · rw [if_pos c16] at H
            have c16b0 : decide (0 ≤ (ji15)) = true := decide_eq_true c16
            clear c16
            by_cases c17 : (ji15) < (a0_0.size : Int)
            · rw [if_pos c17] at H
              have c17b0 : decide ((ji15) < (a0_0.size : Int)) = true := decide_eq_true c17
              clear c17
              have HC19 := Aside0.mk H
              clear H
              have hnb20 := NB159_160.out
              have hnc20 := NB160_159.out
              have hcz21_0 : wr.cell? ⟨gb159, 0, none⟩ = some (.string a0_0) := (blk_cell BK159.out 0).trans rfl
              have hcz21_1 : wr.cell? ⟨gb159, 1, none⟩ = some (.int .i64 x160001_1) := (blk_cell BK159.out 1).trans rfl
              have hcz21_2 : wr.cell? ⟨gb159, 2, none⟩ = some (.int .i64 x160002_1) := (blk_cell BK159.out 2).trans rfl
              have hfz21_0 := blk_frozen BK159.out 0
              have hfz21_1 := blk_frozen BK159.out 1
              have hfz21_2 := blk_frozen BK159.out 2
              have p18 : 0 ≤ ((ji15) : Int) := of_decide_eq_true (by first | (with_reducible assumption) | assumption)
              have q18 : (ji15) < (a0_0.size : Int) := of_decide_eq_true (by first | (with_reducible assumption) | assumption)
              have hx18 := bt_at a0_0 (ji15)
              replace p18 := eq_true p18
              replace q18 := eq_true q18
              go_upto_region 11 with (fail)
              go_cut [49] (fun v49 wc => ∃ (kq : Nat) (x49_18 : Bool), v49 = .bool x49_18 ∧ Aside0 (massifref06_Reader_Number.j1 kq x5_1 x6_1 x7_1 (bt a0_0 (ji15)) x49_18 a0_0 x160001_1 x160002_1 = some (r1, r2, r3, r4, r5)) ∧ Aside0 (kq ≤ k1) ∧ Aside0 (wc.heap[gb159]? = some (.cells #[.string a0_0, .int .i64 x160001_1, .int .i64 x160002_1] 31 (0, 0))) ∧ Aside0 (wc.heap[gb160]? = some (.cells #[.string x161000_1, .int .i64 x161001_1, .int .i64 x161002_1] 31 (0, 0))) ∧ Aside0 (Below w.heap.size w wc))
              case first =>
                have H := HC19.out
                clear HC19
                by_cases c22 : x7_1 = 9
                · rw [if_pos c22] at H
                  have c22b0 : (x7_1 == 9) = true := beq_iff_eq.mpr c22
                  have c22b1 : (x7_1 != 9) = false := bne_eq_false_iff_eq.mpr c22
                  clear c22
                  (first | rw [c22b0] | (simp only [i64_w, i32_w]; rw [c22b0]) | skip)
                  by_cases c23 : (bt a0_0 (ji15)) > 1
                  · rw [if_pos c23] at H
                    have c23b0 : decide (1 < (bt a0_0 (ji15))) = true := decide_eq_true c23
                    clear c23
                    have H' := Aside0.mk H
                    clear H
                    go_wp2
                    go_meet
                    case rel => exact ⟨_, (true), (by first | rfl | (simp; done) | (simp [*]; done)), H', ⟨by have := HK1.out; first | omega | exact Nat.le_refl _⟩, ⟨by (with_reducible repeat (first | refine blk_drewN ?_ _ | refine blk_drew ?_ | refine blk_alloc ?_ _)); exact BK159.out⟩, ⟨by (with_reducible repeat (first | refine blk_drewN ?_ _ | refine blk_drew ?_ | refine blk_alloc ?_ _)); exact BK160.out⟩, ⟨by repeat (first | (with_reducible first | exact HB.out | apply below_alloc | apply pw_below_drewN | apply below_drew1 | refine below_set ?_ GE159.out | refine below_set ?_ GE160.out) | exact HB.out)⟩⟩
                  · rw [if_neg c23] at H
                    have c23b0 : decide (1 < (bt a0_0 (ji15))) = false := decide_eq_false c23
                    clear c23
                    by_cases c24 : x7_1 > 0
                    · rw [if_pos c24] at H
                      have c24b0 : decide (0 < x7_1) = true := decide_eq_true c24
                      clear c24
                      have H' := Aside0.mk H
                      clear H
                      go_wp2
                      go_meet
                      case rel => exact ⟨_, (((bt a0_0 (ji15)) == 0)), (by first | rfl | (simp; done) | (simp only [← hji15] <;> (first | rfl | simp)) | (simp [*]; done)), H', ⟨by have := HK1.out; first | omega | exact Nat.le_refl _⟩, ⟨by (with_reducible repeat (first | refine blk_drewN ?_ _ | refine blk_drew ?_ | refine blk_alloc ?_ _)); exact BK159.out⟩, ⟨by (with_reducible repeat (first | refine blk_drewN ?_ _ | refine blk_drew ?_ | refine blk_alloc ?_ _)); exact BK160.out⟩, ⟨by repeat (first | (with_reducible first | exact HB.out | apply below_alloc | apply pw_below_drewN | apply below_drew1 | refine below_set ?_ GE159.out | refine below_set ?_ GE160.out) | exact HB.out)⟩⟩
                    · rw [if_neg c24] at H
                      have c24b0 : decide (0 < x7_1) = false := decide_eq_false c24
                      clear c24
                      have H' := Aside0.mk H
                      clear H
                      go_wp2
                      go_meet
                      case rel => exact ⟨_, (false), (by first | rfl | (simp; done) | (simp [*]; done)), H', ⟨by have := HK1.out; first | omega | exact Nat.le_refl _⟩, ⟨by (with_reducible repeat (first | refine blk_drewN ?_ _ | refine blk_drew ?_ | refine blk_alloc ?_ _)); exact BK159.out⟩, ⟨by (with_reducible repeat (first | refine blk_drewN ?_ _ | refine blk_drew ?_ | refine blk_alloc ?_ _)); exact BK160.out⟩, ⟨by repeat (first | (with_reducible first | exact HB.out | apply below_alloc | apply pw_below_drewN | apply below_drew1 | refine below_set ?_ GE159.out | refine below_set ?_ GE160.out) | exact HB.out)⟩⟩
                · rw [if_neg c22] at H
                  have c22b0 : (x7_1 == 9) = false := beq_eq_false_iff_ne.mpr c22
                  have c22b1 : (x7_1 != 9) = true := bne_iff_ne.mpr c22
                  (first | rw [c22b0] | (simp only [i64_w, i32_w]; rw [c22b0]) | skip)
                  by_cases c25 : x7_1 > 0
                  · rw [if_pos c25] at H
                    have c25b0 : decide (0 < x7_1) = true := decide_eq_true c25
                    clear c25
                    have H' := Aside0.mk H
                    clear H
                    go_wp2
                    go_meet
                    case rel => exact ⟨_, (((bt a0_0 (ji15)) == 0)), (by first | rfl | (simp; done) | (simp only [← hji15] <;> (first | rfl | simp)) | (simp [*]; done)), H', ⟨by have := HK1.out; first | omega | exact Nat.le_refl _⟩, ⟨by (with_reducible repeat (first | refine blk_drewN ?_ _ | refine blk_drew ?_ | refine blk_alloc ?_ _)); exact BK159.out⟩, ⟨by (with_reducible repeat (first | refine blk_drewN ?_ _ | refine blk_drew ?_ | refine blk_alloc ?_ _)); exact BK160.out⟩, ⟨by repeat (first | (with_reducible first | exact HB.out | apply below_alloc | apply pw_below_drewN | apply below_drew1 | refine below_set ?_ GE159.out | refine below_set ?_ GE160.out) | exact HB.out)⟩⟩
                  · rw [if_neg c25] at H
                    have c25b0 : decide (0 < x7_1) = false := decide_eq_false c25
                    clear c25
                    have H' := Aside0.mk H
                    clear H
                    go_wp2
                    go_meet
                    case rel => exact ⟨_, (false), (by first | rfl | (simp; done) | (simp [*]; done)), H', ⟨by have := HK1.out; first | omega | exact Nat.le_refl _⟩, ⟨by (with_reducible repeat (first | refine blk_drewN ?_ _ | refine blk_drew ?_ | refine blk_alloc ?_ _)); exact BK159.out⟩, ⟨by (with_reducible repeat (first | refine blk_drewN ?_ _ | refine blk_drew ?_ | refine blk_alloc ?_ _)); exact BK160.out⟩, ⟨by repeat (first | (with_reducible first | exact HB.out | apply below_alloc | apply pw_below_drewN | apply below_drew1 | refine below_set ?_ GE159.out | refine below_set ?_ GE160.out) | exact HB.out)⟩⟩
              case rest =>
                clear HC19
                try clear c1
                try clear p1
                try clear q1
                try clear hx1
                try clear c2
                try clear c2b0
                try clear c2b1
                try clear p2
                try clear c5
                try clear p6
                try clear c7
                try clear c7b0
                try clear c8
                try clear c9
                try clear c16
                try clear c16b0
                try clear c17
                try clear c17b0
                try clear p18
                try clear q18
                try clear hx18
                try clear c20
                try clear c22
                try clear c22b0
                try clear c22b1
                try clear c23
                try clear c23b0
                try clear c24
                try clear c24b0
                try clear c25
                try clear c25b0
                try clear hcz21_0
                try clear hcz21_1
                try clear hcz21_2
                try clear hcz6_0
                try clear hcz6_1
                try clear hcz6_2
                try clear hcz9_0
                try clear hcz9_1
                try clear hcz9_2
                try clear hfz21_0
                try clear hfz21_1
                try clear hfz21_2
                try clear hfz6_0
                try clear hfz6_1
                try clear hfz6_2
                try clear hfz9_0
                try clear hfz9_1
                try clear hfz9_2
                try clear p18
                try clear p2
                try clear q18
                obtain ⟨kq, x49_18, rfl, HA, HJ18, BK159, BK160, HB⟩ := hcut
                cases kq with
                | zero => exact absurd HA.out (by simp [massifref06_Reader_Number.j1])
                | succ kj18 =>
                  have H := HA.out
                  clear HA
                  simp only [massifref06_Reader_Number.j1] at H
                  by_cases c26 : x49_18 = true
                  · subst c26
                    have H1 : (some (a0_0, x160001_1, 61, 0, 61)) = some (r1, r2, r3, r4, r5) := by rw [if_pos rfl] at H; exact H
                    clear H
                    have H := H1
                    clear H1
                    simp only [Option.some.injEq, Prod.mk.injEq] at H
                    obtain ⟨rfl, rfl, rfl, rfl, rfl⟩ := H
                    have hnb27 := NB159_160.out
                    have hnc27 := NB160_159.out
                    have hcz28_0 : wc.cell? ⟨gb159, 0, none⟩ = some (.string a0_0) := (blk_cell BK159.out 0).trans rfl
                    have hcz28_1 : wc.cell? ⟨gb159, 1, none⟩ = some (.int .i64 x160001_1) := (blk_cell BK159.out 1).trans rfl
                    have hcz28_2 : wc.cell? ⟨gb159, 2, none⟩ = some (.int .i64 x160002_1) := (blk_cell BK159.out 2).trans rfl
                    have hfz28_0 := blk_frozen BK159.out 0
                    have hfz28_1 := blk_frozen BK159.out 1
                    have hfz28_2 := blk_frozen BK159.out 2
                    try go_wp2
                    have n0_ : Aside0 ((wc.setCell ⟨gb159, 2, none⟩ (.int .i64 61)).heap[gb159]? = some (.cells #[.string a0_0, .int .i64 x160001_1, .int .i64 61] 31 (0, 0))) := ⟨by (with_reducible repeat (first | refine blk_drewN ?_ _ | refine blk_drew ?_ | refine blk_alloc ?_ _)); refine blk_put (cs := #[.string a0_0, .int .i64 x160001_1, .int .i64 x160002_1]) ?_ 2 _ rfl; (with_reducible repeat (first | refine blk_drewN ?_ _ | refine blk_drew ?_ | refine blk_alloc ?_ _)); exact BK159.out⟩
                    have n1_ : Aside0 ((wc.setCell ⟨gb159, 2, none⟩ (.int .i64 61)).heap[gb160]? = some (.cells #[.string x161000_1, .int .i64 x161001_1, .int .i64 x161002_1] 31 (0, 0))) := ⟨by (with_reducible repeat (first | refine blk_drewN ?_ _ | refine blk_drew ?_ | refine blk_alloc ?_ _)); refine blk_far ?_ NB160_159.out _; (with_reducible repeat (first | refine blk_drewN ?_ _ | refine blk_drew ?_ | refine blk_alloc ?_ _)); exact BK160.out⟩
                    have n2_ : Aside0 (Below w.heap.size w (wc.setCell ⟨gb159, 2, none⟩ (.int .i64 61))) := ⟨by repeat (first | (with_reducible first | exact HB.out | apply below_alloc | apply pw_below_drewN | apply below_drew1 | refine below_set ?_ GE159.out | refine below_set ?_ GE160.out) | exact HB.out)⟩
                    (try clear BK159)
                    (try clear BK160)
                    (try clear HB)
                    generalize (wc.setCell ⟨gb159, 2, none⟩ (.int .i64 61)) = w29 at n0_ n1_ n2_ ⊢
                    have BK159 := n0_
                    have BK160 := n1_
                    have HB := n2_
                    clear n0_ n1_ n2_
                    have n0_ := Aside0.mk (blk_drew BK159.out)
                    have n1_ := Aside0.mk (blk_drew BK160.out)
                    have n2_ := Aside0.mk (below_drew1 HB.out)
                    clear BK159
                    clear BK160
                    clear HB
                    have BK159 := n0_
                    have BK160 := n1_
                    have HB := n2_
                    clear n0_ n1_ n2_
                    refine start_ (n := 6) (S := fun w' => w'.cell? ⟨gb159, 0, none⟩ = some (.string a0_0) ∧ w'.cell? ⟨gb159, 1, none⟩ = some (.int .i64 x160001_1) ∧ w'.cell? ⟨gb159, 2, none⟩ = some (.int .i64 61)) (ds := []) #[false, false, false, false, false, false] (by kernel_rfl) rfl rfl ⟨(blk_cell BK159.out 0).trans rfl, (blk_cell BK159.out 1).trans rfl, (blk_cell BK159.out 2).trans rfl⟩ (fun hHeld => ?_)
                    generalize w29.drew = w30 at BK159 BK160 HB hHeld ⊢
                    refine pure_ (i := 1) (N := some 52) (v := ?_) (a' := ?_) #[false, true, false, false, false, false] rfl rfl (by kernel_rfl) (fun _ _ _ h => h) (Or.inl ⟨by rfl, ?_⟩) ?_ ?_
                    rotate_left
                    · intro w'
                      go_simp
                      with_reducible rfl
                    rotate_left
                    · simp only [Act.put, List.setIfInBounds_toArray, List.set_cons_zero, List.set_cons_succ, i64_w, i32_w]
                      rfl
                    refine take_ (i := 0) (N := some 51) (v := ?_) (a' := ?_) #[true, true, false, false, false, false] rfl rfl (by kernel_rfl) (fun _ _ _ h => h) (Or.inl ⟨by rfl, ?_⟩) hHeld ?_ ?_
                    rotate_left
                    · rintro w' ⟨s0, s1, s2⟩
                      go_simp
                      with_reducible rfl
                    rotate_left
                    · simp only [Act.put, List.setIfInBounds_toArray, List.set_cons_zero, List.set_cons_succ, i64_w, i32_w]
                      rfl
                    refine take_ (i := 2) (N := some 53) (v := ?_) (a' := ?_) #[true, true, true, false, false, false] rfl rfl (by kernel_rfl) (fun _ _ _ h => h) (Or.inl ⟨by rfl, ?_⟩) hHeld ?_ ?_
                    rotate_left
                    · rintro w' ⟨s0, s1, s2⟩
                      go_simp
                      with_reducible rfl
                    rotate_left
                    · simp only [Act.put, List.setIfInBounds_toArray, List.set_cons_zero, List.set_cons_succ, i64_w, i32_w]
                      rfl
                    refine one_ (i := 3) (N := none) #[true, true, true, true, false, false] rfl rfl (by kernel_rfl) (by decide) (fun K hK => ?_)
                    have hs31 : w30.cell? ⟨gb160, 0, none⟩ = some (.string x161000_1) := (blk_cell BK160.out 0).trans rfl
                    have hfs31 := blk_frozen BK160.out 0
                    have hns31_0 := NB159_160.out
                    have hms31_0 := NB160_159.out
                    have hs32 : w30.cell? ⟨gb160, 1, none⟩ = some (.int .i64 x161001_1) := (blk_cell BK160.out 1).trans rfl
                    have hfs32 := blk_frozen BK160.out 1
                    have hns32_0 := NB159_160.out
                    have hms32_0 := NB160_159.out
                    have hs33 : w30.cell? ⟨gb160, 2, none⟩ = some (.int .i64 x161002_1) := (blk_cell BK160.out 2).trans rfl
                    have hfs33 := blk_frozen BK160.out 2
                    have hns33_0 := NB159_160.out
                    have hms33_0 := NB160_159.out
                    refine skip_ (w1 := ?_) (by rfl) rfl ?_ ?_
                    rotate_left
                    · go_simp
                      rfl
                    refine hK.out _ _ ⟨((cell_far (p := ⟨gb160, _, none⟩) NB159_160.out _).trans (((cell_far (p := ⟨gb160, _, none⟩) NB159_160.out _).trans (((cell_far (p := ⟨gb160, _, none⟩) NB159_160.out _).trans (hHeld.1)))))), ((cell_far (p := ⟨gb160, _, none⟩) NB159_160.out _).trans (((cell_far (p := ⟨gb160, _, none⟩) NB159_160.out _).trans (((cell_far (p := ⟨gb160, _, none⟩) NB159_160.out _).trans (hHeld.2.1)))))), ((cell_far (p := ⟨gb160, _, none⟩) NB159_160.out _).trans (((cell_far (p := ⟨gb160, _, none⟩) NB159_160.out _).trans (((cell_far (p := ⟨gb160, _, none⟩) NB159_160.out _).trans (hHeld.2.2))))))⟩ (fun hHeld => ?_)
                    clear hK K
                    refine pure_ (i := 4) (N := some 3) (v := ?_) (a' := ?_) #[true, true, true, true, true, false] rfl rfl (by kernel_rfl) (fun _ _ _ h => h) (Or.inl ⟨by rfl, ?_⟩) ?_ ?_
                    rotate_left
                    · intro w'
                      go_simp
                      with_reducible rfl
                    rotate_left
                    · simp only [Act.put, List.setIfInBounds_toArray, List.set_cons_zero, List.set_cons_succ, i64_w, i32_w]
                      rfl
                    refine pure_ (i := 5) (N := some 4) (v := ?_) (a' := ?_) #[true, true, true, true, true, true] rfl rfl (by kernel_rfl) (fun _ _ _ h => h) (Or.inl ⟨by rfl, ?_⟩) ?_ ?_
                    rotate_left
                    · intro w'
                      go_simp
                      with_reducible rfl
                    rotate_left
                    · simp only [Act.put, List.setIfInBounds_toArray, List.set_cons_zero, List.set_cons_succ, i64_w, i32_w]
                      rfl
                    refine done_ (by kernel_rfl) ?_
                    try go_wp2
                    refine bodyPost_ret (results_ctt rfl _ _ gb160 31 #[.string a0_0, .int .i64 x160001_1, .int .i64 61] (0, 0) _ rfl (by (with_reducible repeat (first | refine blk_drewN ?_ _ | refine blk_drew ?_ | refine blk_alloc ?_ _)); refine blk_put (cs := #[.string a0_0, .int .i64 x160001_1, .int .i64 x161002_1]) ?_ 2 _ rfl; (with_reducible repeat (first | refine blk_drewN ?_ _ | refine blk_drew ?_ | refine blk_alloc ?_ _)); refine blk_put (cs := #[.string a0_0, .int .i64 x161001_1, .int .i64 x161002_1]) ?_ 1 _ rfl; (with_reducible repeat (first | refine blk_drewN ?_ _ | refine blk_drew ?_ | refine blk_alloc ?_ _)); refine blk_put (cs := #[.string x161000_1, .int .i64 x161001_1, .int .i64 x161002_1]) ?_ 0 _ rfl; (with_reducible repeat (first | refine blk_drewN ?_ _ | refine blk_drew ?_ | refine blk_alloc ?_ _)); exact BK160.out) Try.underlying31 rfl (by kernel_rfl)) rfl ?_
                    exact ⟨by first | rfl | (simp [errW_none, errW_some] <;> rfl) | (simp only [← hji15]; first | rfl | (simp [errW_none, errW_some] <;> rfl)) | (simp [*, errW_none, errW_some] <;> rfl), by repeat (first | (with_reducible first | exact HB.out | apply below_alloc | apply pw_below_drewN | apply below_drew1 | refine below_set ?_ GE159.out | refine below_set ?_ GE160.out) | exact HB.out)⟩
                  · replace c26 := Bool.eq_false_iff.mpr c26
                    subst c26
                    have H1 : (if (bt a0_0 (ji15)) < 128 then (some (a0_0, wrap64 ((wrap64 (x160001_1 + x7_1)) + 1), x160002_1, IntKind.u64.wrap (x5_1 + (IntKind.u64.wrap (x6_1 * (IntKind.u64.wrap (Int.tmod (bt a0_0 (ji15)) 128))))), 0)) else (massifref06_Reader_Number.l0 kj18 (IntKind.u64.wrap (x5_1 + (IntKind.u64.wrap (x6_1 * (IntKind.u64.wrap (Int.tmod (bt a0_0 (ji15)) 128)))))) (IntKind.u64.wrap (x6_1 * 128)) (wrap64 (x7_1 + 1)) a0_0 x160001_1 x160002_1)) = some (r1, r2, r3, r4, r5) := by rw [if_neg (show ¬ (false = true) by decide)] at H; exact H
                    clear H
                    have H := H1
                    clear H1
                    by_cases c34 : (bt a0_0 (ji15)) < 128
                    · rw [if_pos c34] at H
                      have c34b0 : decide ((bt a0_0 (ji15)) < 128) = true := decide_eq_true c34
                      clear c34
                      simp only [Option.some.injEq, Prod.mk.injEq] at H
                      obtain ⟨rfl, rfl, rfl, rfl, rfl⟩ := H
                      have hnb35 := NB159_160.out
                      have hnc35 := NB160_159.out
                      have hcz36_0 : wc.cell? ⟨gb159, 0, none⟩ = some (.string a0_0) := (blk_cell BK159.out 0).trans rfl
                      have hcz36_1 : wc.cell? ⟨gb159, 1, none⟩ = some (.int .i64 x160001_1) := (blk_cell BK159.out 1).trans rfl
                      have hcz36_2 : wc.cell? ⟨gb159, 2, none⟩ = some (.int .i64 x160002_1) := (blk_cell BK159.out 2).trans rfl
                      have hfz36_0 := blk_frozen BK159.out 0
                      have hfz36_1 := blk_frozen BK159.out 1
                      have hfz36_2 := blk_frozen BK159.out 2
                      have hcz37_0 : wc.cell? ⟨gb160, 0, none⟩ = some (.string x161000_1) := (blk_cell BK160.out 0).trans rfl
                      have hcz37_1 : wc.cell? ⟨gb160, 1, none⟩ = some (.int .i64 x161001_1) := (blk_cell BK160.out 1).trans rfl
                      have hcz37_2 : wc.cell? ⟨gb160, 2, none⟩ = some (.int .i64 x161002_1) := (blk_cell BK160.out 2).trans rfl
                      have hfz37_0 := blk_frozen BK160.out 0
                      have hfz37_1 := blk_frozen BK160.out 1
                      have hfz37_2 := blk_frozen BK160.out 2
                      go_wp2
                      refine bodyPost_ret (results_ctt rfl _ _ gb160 31 #[.string a0_0, .int .i64 (wrap64 (ji15 + 1)), .int .i64 x160002_1] (0, 0) _ rfl (by (with_reducible repeat (first | refine blk_drewN ?_ _ | refine blk_drew ?_ | refine blk_alloc ?_ _)); refine blk_put (cs := #[.string a0_0, .int .i64 (wrap64 (ji15 + 1)), .int .i64 x161002_1]) ?_ 2 _ rfl; (with_reducible repeat (first | refine blk_drewN ?_ _ | refine blk_drew ?_ | refine blk_alloc ?_ _)); refine blk_put (cs := #[.string a0_0, .int .i64 x161001_1, .int .i64 x161002_1]) ?_ 1 _ rfl; (with_reducible repeat (first | refine blk_drewN ?_ _ | refine blk_drew ?_ | refine blk_alloc ?_ _)); refine blk_put (cs := #[.string x161000_1, .int .i64 x161001_1, .int .i64 x161002_1]) ?_ 0 _ rfl; (with_reducible repeat (first | refine blk_drewN ?_ _ | refine blk_drew ?_ | refine blk_alloc ?_ _)); refine blk_far ?_ NB160_159.out _; (with_reducible repeat (first | refine blk_drewN ?_ _ | refine blk_drew ?_ | refine blk_alloc ?_ _)); exact BK160.out) Try.underlying31 rfl (by kernel_rfl)) rfl ?_
                      exact ⟨by first | rfl | (simp [errW_none, errW_some] <;> rfl) | (simp only [← hji15]; first | rfl | (simp [errW_none, errW_some] <;> rfl)) | (simp [*, errW_none, errW_some] <;> rfl), by repeat (first | (with_reducible first | exact HB.out | apply below_alloc | apply pw_below_drewN | apply below_drew1 | refine below_set ?_ GE159.out | refine below_set ?_ GE160.out) | exact HB.out)⟩
                    · rw [if_neg c34] at H
                      have c34b0 : decide ((bt a0_0 (ji15)) < 128) = false := decide_eq_false c34
                      clear c34
                      have H' := Aside0.mk H
                      clear H
                      go_wp2
                      go_roundg kj18
                      case measure => have := HK1.out; have := HJ18.out; omega
                      case rel => exact ⟨(IntKind.u64.wrap (x5_1 + (IntKind.u64.wrap (x6_1 * (IntKind.u64.wrap (Int.tmod (bt a0_0 (ji15)) 128)))))), (IntKind.u64.wrap (x6_1 * 128)), (wrap64 (x7_1 + 1)), (x160001_1), (x160002_1), (x161000_1), (x161001_1), (x161002_1), (by first | rfl | (simp; done) | (simp only [← hji15] <;> (first | rfl | simp)) | (simp [*]; done)), (by first | rfl | (simp; done) | (simp [*]; done)), (by first | rfl | (simp; done) | (simp [*]; done)), H', ⟨by have := HK1.out; have := HJ18.out; omega⟩, ⟨by (with_reducible repeat (first | refine blk_drewN ?_ _ | refine blk_drew ?_ | refine blk_alloc ?_ _)); exact BK159.out⟩, ⟨by (with_reducible repeat (first | refine blk_drewN ?_ _ | refine blk_drew ?_ | refine blk_alloc ?_ _)); exact BK160.out⟩, ⟨by repeat (first | (with_reducible first | exact HB.out | apply below_alloc | apply pw_below_drewN | apply below_drew1 | refine below_set ?_ GE159.out | refine below_set ?_ GE160.out) | exact HB.out)⟩⟩
            · rw [if_neg c17] at H
              exact absurd H (by simp)
          · rw [if_neg c16] at H
            exact absurd H (by simp)
  · rw [if_neg c2] at H
    have c2b0 : (a0_2 == 0) = false := beq_eq_false_iff_ne.mpr c2
    have c2b1 : (a0_2 != 0) = true := bne_iff_ne.mpr c2
    simp only [Option.some.injEq, Prod.mk.injEq] at H
    obtain ⟨rfl, rfl, rfl, rfl, rfl⟩ := H
    go_enter Try.func9, Try.ntmps9
    try go_wp2_with (first | ((with_reducible refine gate_dst (N := 1) rfl ?_); refine box_event ?hg (N := 1) ?hd (cs := #[.string a0_0, .int .i64 a0_1, .int .i64 a0_2]) (t := 31) ?hr ?_; (case hd => rfl); (case hg => rfl); (case hr => first | (go_simp; done) | (go_simp; rfl)); intro gb159 hg w38 hbox hb; have n0_ := Aside0.mk (below_step (by repeat (first | (with_reducible first | exact HB.out | apply below_alloc | apply pw_below_drewN | apply below_drew1) | exact HB.out)) hb); have n1_ := Aside0.mk (hbox); have n2_ := Aside0.mk ((by rw [hg]; exact (below_size (by repeat (first | (with_reducible first | exact HB.out | apply below_alloc | apply pw_below_drewN | apply below_drew1) | exact HB.out))) : w.heap.size ≤ gb159)); have n3_ := Aside0.mk ((by rw [hg]; exact (below_size (by repeat (first | (with_reducible first | exact HB.out | apply below_alloc | apply pw_below_drewN | apply below_drew1) | exact HB.out))) : w.heap.size ≤ gb159)); clear HB; have HB := n0_; have BK159 := n1_; have GW159 := n2_; have GE159 := n3_; clear n0_ n1_ n2_ n3_; clear hb hbox hg) | ((with_reducible refine gate_dst (N := 2) rfl ?_); refine box_event ?hg (N := 2) ?hd (cs := #[.string (⟨#[]⟩ : ByteArray), .int .i64 0, .int .i64 0]) (t := 31) ?hr ?_; (case hd => rfl); (case hg => rfl); (case hr => first | (go_simp; done) | (go_simp; rfl)); intro gb160 hg w39 hbox hb; have n0_ := Aside0.mk (blk_below (g := gb159) (o := .cells #[.string a0_0, .int .i64 a0_1, .int .i64 a0_2] 31 (0, 0)) (by (with_reducible repeat (first | refine blk_drewN ?_ _ | refine blk_drew ?_ | refine blk_alloc ?_ _)); exact BK159.out) hb); have n1_ := Aside0.mk (below_step (by repeat (first | (with_reducible first | exact HB.out | apply below_alloc | apply pw_below_drewN | apply below_drew1 | refine below_set ?_ GE159.out) | exact HB.out)) hb); have n2_ := Aside0.mk (hbox); have n3_ := Aside0.mk ((by rw [hg]; exact (below_size (by repeat (first | (with_reducible first | exact HB.out | apply below_alloc | apply pw_below_drewN | apply below_drew1 | refine below_set ?_ GE159.out) | exact HB.out))) : w.heap.size ≤ gb160)); have n4_ := Aside0.mk ((by rw [hg]; exact (below_size (by repeat (first | (with_reducible first | exact HB.out | apply below_alloc | apply pw_below_drewN | apply below_drew1 | refine below_set ?_ GE159.out) | exact HB.out))) : w.heap.size ≤ gb160)); have n5_ := Aside0.mk ((by rw [hg]; exact Nat.ne_of_lt (blk_lt (g := gb159) (o := .cells #[.string a0_0, .int .i64 a0_1, .int .i64 a0_2] 31 (0, 0)) (by (with_reducible repeat (first | refine blk_drewN ?_ _ | refine blk_drew ?_ | refine blk_alloc ?_ _)); exact BK159.out)) : gb159 ≠ gb160)); have n6_ := Aside0.mk ((by rw [hg]; exact Nat.ne_of_gt (blk_lt (g := gb159) (o := .cells #[.string a0_0, .int .i64 a0_1, .int .i64 a0_2] 31 (0, 0)) (by (with_reducible repeat (first | refine blk_drewN ?_ _ | refine blk_drew ?_ | refine blk_alloc ?_ _)); exact BK159.out)) : gb160 ≠ gb159)); clear BK159; clear HB; have BK159 := n0_; have HB := n1_; have BK160 := n2_; have GW160 := n3_; have GE160 := n4_; have NB159_160 := n5_; have NB160_159 := n6_; clear n0_ n1_ n2_ n3_ n4_ n5_ n6_; clear hb hbox hg; have hnb40 := NB159_160.out; have hnc40 := NB160_159.out; have hcz41_0 : w39.cell? ⟨gb159, 0, none⟩ = some (.string a0_0) := (blk_cell BK159.out 0).trans rfl; have hcz41_1 : w39.cell? ⟨gb159, 1, none⟩ = some (.int .i64 a0_1) := (blk_cell BK159.out 1).trans rfl; have hcz41_2 : w39.cell? ⟨gb159, 2, none⟩ = some (.int .i64 a0_2) := (blk_cell BK159.out 2).trans rfl; have hfz41_0 := blk_frozen BK159.out 0; have hfz41_1 := blk_frozen BK159.out 1; have hfz41_2 := blk_frozen BK159.out 2))
    have n0_ := Aside0.mk (blk_drew BK159.out)
    have n1_ := Aside0.mk (blk_drew BK160.out)
    have n2_ := Aside0.mk (below_drew1 HB.out)
    clear BK159
    clear BK160
    clear HB
    have BK159 := n0_
    have BK160 := n1_
    have HB := n2_
    clear n0_ n1_ n2_
    refine start_ (n := 6) (S := fun w' => w'.cell? ⟨gb159, 0, none⟩ = some (.string a0_0) ∧ w'.cell? ⟨gb159, 1, none⟩ = some (.int .i64 a0_1) ∧ w'.cell? ⟨gb159, 2, none⟩ = some (.int .i64 a0_2)) (ds := []) #[false, false, false, false, false, false] (by kernel_rfl) rfl rfl ⟨(blk_cell BK159.out 0).trans rfl, (blk_cell BK159.out 1).trans rfl, (blk_cell BK159.out 2).trans rfl⟩ (fun hHeld => ?_)
    generalize w39.drew = w42 at BK159 BK160 HB hHeld ⊢
    refine pure_ (i := 1) (N := some 13) (v := ?_) (a' := ?_) #[false, true, false, false, false, false] rfl rfl (by kernel_rfl) (fun _ _ _ h => h) (Or.inl ⟨by rfl, ?_⟩) ?_ ?_
    rotate_left
    · intro w'
      go_simp
      with_reducible rfl
    rotate_left
    · simp only [Act.put, List.setIfInBounds_toArray, List.set_cons_zero, List.set_cons_succ, i64_w, i32_w]
      rfl
    refine take_ (i := 0) (N := some 12) (v := ?_) (a' := ?_) #[true, true, false, false, false, false] rfl rfl (by kernel_rfl) (fun _ _ _ h => h) (Or.inl ⟨by rfl, ?_⟩) hHeld ?_ ?_
    rotate_left
    · rintro w' ⟨s0, s1, s2⟩
      go_simp
      with_reducible rfl
    rotate_left
    · simp only [Act.put, List.setIfInBounds_toArray, List.set_cons_zero, List.set_cons_succ, i64_w, i32_w]
      rfl
    refine take_ (i := 2) (N := some 14) (v := ?_) (a' := ?_) #[true, true, true, false, false, false] rfl rfl (by kernel_rfl) (fun _ _ _ h => h) (Or.inl ⟨by rfl, ?_⟩) hHeld ?_ ?_
    rotate_left
    · rintro w' ⟨s0, s1, s2⟩
      go_simp
      with_reducible rfl
    rotate_left
    · simp only [Act.put, List.setIfInBounds_toArray, List.set_cons_zero, List.set_cons_succ, i64_w, i32_w]
      rfl
    refine one_ (i := 3) (N := none) #[true, true, true, true, false, false] rfl rfl (by kernel_rfl) (by decide) (fun K hK => ?_)
    have hs43 : w42.cell? ⟨gb160, 0, none⟩ = some (.string (⟨#[]⟩ : ByteArray)) := (blk_cell BK160.out 0).trans rfl
    have hfs43 := blk_frozen BK160.out 0
    have hns43_0 := NB159_160.out
    have hms43_0 := NB160_159.out
    have hs44 : w42.cell? ⟨gb160, 1, none⟩ = some (.int .i64 0) := (blk_cell BK160.out 1).trans rfl
    have hfs44 := blk_frozen BK160.out 1
    have hns44_0 := NB159_160.out
    have hms44_0 := NB160_159.out
    have hs45 : w42.cell? ⟨gb160, 2, none⟩ = some (.int .i64 0) := (blk_cell BK160.out 2).trans rfl
    have hfs45 := blk_frozen BK160.out 2
    have hns45_0 := NB159_160.out
    have hms45_0 := NB160_159.out
    refine skip_ (w1 := ?_) (by rfl) rfl ?_ ?_
    rotate_left
    · go_simp
      rfl
    refine hK.out _ _ ⟨((cell_far (p := ⟨gb160, _, none⟩) NB159_160.out _).trans (((cell_far (p := ⟨gb160, _, none⟩) NB159_160.out _).trans (((cell_far (p := ⟨gb160, _, none⟩) NB159_160.out _).trans (hHeld.1)))))), ((cell_far (p := ⟨gb160, _, none⟩) NB159_160.out _).trans (((cell_far (p := ⟨gb160, _, none⟩) NB159_160.out _).trans (((cell_far (p := ⟨gb160, _, none⟩) NB159_160.out _).trans (hHeld.2.1)))))), ((cell_far (p := ⟨gb160, _, none⟩) NB159_160.out _).trans (((cell_far (p := ⟨gb160, _, none⟩) NB159_160.out _).trans (((cell_far (p := ⟨gb160, _, none⟩) NB159_160.out _).trans (hHeld.2.2))))))⟩ (fun hHeld => ?_)
    clear hK K
    refine pure_ (i := 4) (N := some 3) (v := ?_) (a' := ?_) #[true, true, true, true, true, false] rfl rfl (by kernel_rfl) (fun _ _ _ h => h) (Or.inl ⟨by rfl, ?_⟩) ?_ ?_
    rotate_left
    · intro w'
      go_simp
      with_reducible rfl
    rotate_left
    · simp only [Act.put, List.setIfInBounds_toArray, List.set_cons_zero, List.set_cons_succ, i64_w, i32_w]
      rfl
    refine pure_ (i := 5) (N := some 4) (v := ?_) (a' := ?_) #[true, true, true, true, true, true] rfl rfl (by kernel_rfl) (fun _ _ _ h => h) (Or.inl ⟨by rfl, ?_⟩) ?_ ?_
    rotate_left
    · intro w'
      go_simp
      with_reducible rfl
    rotate_left
    · simp only [Act.put, List.setIfInBounds_toArray, List.set_cons_zero, List.set_cons_succ, i64_w, i32_w]
      rfl
    refine done_ (by kernel_rfl) ?_
    try go_wp2
    refine bodyPost_ret (results_ctt rfl _ _ gb160 31 #[.string a0_0, .int .i64 a0_1, .int .i64 a0_2] (0, 0) _ rfl (by (with_reducible repeat (first | refine blk_drewN ?_ _ | refine blk_drew ?_ | refine blk_alloc ?_ _)); refine blk_put (cs := #[.string a0_0, .int .i64 a0_1, .int .i64 0]) ?_ 2 _ rfl; (with_reducible repeat (first | refine blk_drewN ?_ _ | refine blk_drew ?_ | refine blk_alloc ?_ _)); refine blk_put (cs := #[.string a0_0, .int .i64 0, .int .i64 0]) ?_ 1 _ rfl; (with_reducible repeat (first | refine blk_drewN ?_ _ | refine blk_drew ?_ | refine blk_alloc ?_ _)); refine blk_put (cs := #[.string (⟨#[]⟩ : ByteArray), .int .i64 0, .int .i64 0]) ?_ 0 _ rfl; (with_reducible repeat (first | refine blk_drewN ?_ _ | refine blk_drew ?_ | refine blk_alloc ?_ _)); exact BK160.out) Try.underlying31 rfl (by kernel_rfl)) rfl ?_
    exact ⟨by first | rfl | (simp [errW_none, errW_some] <;> rfl) | (simp [*, errW_none, errW_some] <;> rfl), by repeat (first | (with_reducible first | exact HB.out | apply below_alloc | apply pw_below_drewN | apply below_drew1 | refine below_set ?_ GE159.out | refine below_set ?_ GE160.out) | exact HB.out)⟩

end Go.Proofs.Ytalhbgokelodoaa.PWireReads
