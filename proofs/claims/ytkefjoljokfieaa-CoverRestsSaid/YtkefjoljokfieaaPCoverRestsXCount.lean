/- The contract of cover.Count and of what it calls. -/
import Derived.Test.YtkefjoljokfieaaPCoverRestsXCut
import Derived.Test.YtkefjoljokfieaaPCoverRestsx0
import Derived.Test.YtkefjoljokfieaaPCoverRestsx2
import Derived.StillTailTactics
set_option linter.unusedVariables false
set_option linter.unusedSimpArgs false
namespace Go.Proofs.Ytkefjoljokfieaa.PCoverRests.Count
open Go.RowKit Go.Proofs.YtkefjoljokfieaaW.PrintWords Go.Proofs.YtkefjoljokfieaaW.PrintLast Go.Proofs.YtkefjoljokfieaaW.PrintMore Go.Proofs.Ytkefjoljokfieaa.MB Go.Proofs.Ytkefjoljokfieaa.PCoverRests
attribute [local go_sem] max2_int min2_int max_two min_two max_three min_three max_four min_four

/-- What is kept: all blocks that are not private. -/
structure FrP (w w' : World) (p p' : Nat → Prop) : Prop where
  size : w.heap.size ≤ w'.heap.size
  keep : ∀ k, k < w.heap.size → ¬ p k → w'.heap[k]? = w.heap[k]?
  own : ∀ k, p' k → p k ∨ w.heap.size ≤ k
theorem FrP.refl (w : World) (p : Nat → Prop) : FrP w w p p := ⟨Nat.le_refl _, fun _ _ _ => rfl, fun _ h => .inl h⟩
theorem FrP.trans {w w1 w2 : World} {p p1 p2 : Nat → Prop} (a : FrP w w1 p p1) (b : FrP w1 w2 p1 p2) : FrP w w2 p p2 := by
  refine ⟨Nat.le_trans a.size b.size, fun k hk hp => ?_, fun k hk => ?_⟩
  · rw [b.keep k (Nat.lt_of_lt_of_le hk a.size) (fun h => ?_), a.keep k hk hp]
    rcases a.own k h with h | h
    · exact hp h
    · omega
  · rcases b.own k hk with h | h
    · exact a.own k h
    · exact .inr (Nat.le_trans a.size h)
theorem FrP.below {w w' : World} (p : Nat → Prop) (h : Below w.heap.size w w') : FrP w w' p p := ⟨h.size, fun k hk _ => h.block k hk, fun _ h => .inl h⟩

/-- Who is told of each block: a closure with one captured variable; I: what it has been told, and which blocks are its own. -/
structure Told (w0 : World) (gp : Nat) (I : World → List (Nat × Nat) → (Nat → Prop) → Prop) : Prop where
  below : ∀ {w w' : World} {ys : List (Nat × Nat)} {p : Nat → Prop}, I w ys p → Below w.heap.size w w' → I w' ys p
  priv : ∀ {w : World} {ys : List (Nat × Nat)} {p : Nat → Prop}, I w ys p → ∀ k, p k → k < w.heap.size ∧ w0.heap.size ≤ k
  call : ∀ {w : World} {ys : List (Nat × Nat)} {p : Nat → Prop} (h k : Nat), I w ys p → Below w0.heap.size w0 w → ys.length < 8796093022208 →
    Calls Try.prog 20 #[.agg #[.int .i64 (h : Int), .int .u64 (k : Int)], .pointer (some ⟨gp, 0, none⟩)] w fun e w' => e = .returned (.tuple #[]) ∧ ∃ p', I w' (ys ++ [(h, k)]) p' ∧ Below w0.heap.size w0 w' ∧ FrP w w' p p'

/-- The walk's own variables. -/
structure WI (w0 w : World) (gp gt gw : Nat) (I : World → List (Nat × Nat) → (Nat → Prop) → Prop) (ys : List (Nat × Nat)) (p : Nat → Prop) : Prop where
  t : w.heap[gt]? = some (.cells #[.func (.func 20) #[] #[.pointer (some ⟨gp, 0, none⟩)]] 45 (0, 0))
  g : w.heap[gw]? = some (.cells #[.func (.func 28) #[] #[.pointer (some ⟨gt, 0, none⟩), .pointer (some ⟨gw, 0, none⟩)]] 54 (0, 0))
  i : I w ys p
  nt : ¬ p gt
  ng : ¬ p gw
  b : Below w0.heap.size w0 w
theorem WI.below {w0 w w' : World} {gp gt gw : Nat} {I : World → List (Nat × Nat) → (Nat → Prop) → Prop} {ys : List (Nat × Nat)} {p : Nat → Prop} (T : Told w0 gp I) (q : WI w0 w gp gt gw I ys p) (h : Below w.heap.size w w') : WI w0 w' gp gt gw I ys p :=
  ⟨blk_below q.t h, blk_below q.g h, T.below q.i h, q.nt, q.ng, below_weaken q.b q.b.size h⟩
theorem WI.next {w0 w w' : World} {gp gt gw : Nat} {I : World → List (Nat × Nat) → (Nat → Prop) → Prop} {ys ys' : List (Nat × Nat)} {p p' : Nat → Prop} (q : WI w0 w gp gt gw I ys p) (hi : I w' ys' p') (hb : Below w0.heap.size w0 w') (hf : FrP w w' p p') : WI w0 w' gp gt gw I ys' p' := by
  refine ⟨(hf.keep gt (blk_lt q.t) q.nt).trans q.t, (hf.keep gw (blk_lt q.g) q.ng).trans q.g, hi, fun h => ?_, fun h => ?_, hb⟩
  · rcases hf.own gt h with h | h
    · exact q.nt h
    · have := blk_lt q.t; omega
  · rcases hf.own gw h with h | h
    · exact q.ng h
    · have := blk_lt q.g; omega
def Wp (w0 w : World) (I : World → List (Nat × Nat) → (Nat → Prop) → Prop) (p : Nat → Prop) (ys : List (Nat × Nat)) (e : Ending) (w' : World) : Prop :=
  e = .returned (.tuple #[]) ∧ ∃ p', I w' ys p' ∧ Below w0.heap.size w0 w' ∧ FrP w w' p p'

set_option maxHeartbeats 1000000 in
set_option maxRecDepth 100000 in
theorem walk_empty (w0 w : World) (gp gt gw h k c : Nat) (A : Option Addr) (I : World → List (Nat × Nat) → (Nat → Prop) → Prop) (T : Told w0 gp I) (ys : List (Nat × Nat)) (p : Nat → Prop)
    (q : WI w0 w gp gt gw I ys p) (hl : ys.length < 8796093022208) :
    Calls Try.prog 28 #[.agg #[.int .i64 (h : Int), .int .u64 (k : Int)], .slice A 0 c, .pointer (some ⟨gt, 0, none⟩), .pointer (some ⟨gw, 0, none⟩)] w
      (Wp w0 w I p (ys ++ [(h, k)])) := by
  have HT := Aside0.mk T
  have HQ := Aside0.mk q
  have HL := Aside0.mk hl
  have hct : (w.alloc (.cells #[.int .i64 (h : Int), .int .u64 (k : Int)] 42)).cell? ⟨gt, 0, none⟩ = some (.func (.func 20) #[] #[.pointer (some ⟨gp, 0, none⟩)]) := cell_of_one (blk_alloc q.t _)
  clear T q hl
  go_enter Try.func28, Try.ntmps28
  go_wp2_with (fail)
  have HQ1 := Aside0.mk (HQ.out.below HT.out (below_alloc (Below.refl w.heap.size w) (.cells #[.int .i64 (h : Int), .int .u64 (k : Int)] 42)))
  refine (HT.out.call h k HQ1.out.i HQ1.out.b HL.out).mono ?_
  rintro e w1 ⟨rfl, p1, hi1, hb1, hf1⟩
  have H1 := Aside0.mk (And.intro hi1 (And.intro hb1 hf1))
  clear hct hi1 hb1 hf1
  go_wp2
  go_end0
  exact ⟨rfl, p1, H1.out.1, H1.out.2.1, (FrP.below p (below_alloc (Below.refl w.heap.size w) _)).trans H1.out.2.2⟩

set_option maxHeartbeats 1000000 in
set_option maxRecDepth 100000 in
theorem walk_leaf (w0 w : World) (gp gt gw k n c : Nat) (A : Option Addr) (I : World → List (Nat × Nat) → (Nat → Prop) → Prop) (T : Told w0 gp I) (ys : List (Nat × Nat)) (p : Nat → Prop)
    (q : WI w0 w gp gt gw I ys p) (hn : ((n : Int) == 0) = false) :
    Calls Try.prog 28 #[.agg #[.int .i64 0, .int .u64 (k : Int)], .slice A n c, .pointer (some ⟨gt, 0, none⟩), .pointer (some ⟨gw, 0, none⟩)] w
      (Wp w0 w I p ys) := by
  have HT := Aside0.mk T
  have HQ := Aside0.mk q
  clear T q
  go_enter Try.func28, Try.ntmps28
  go_wp2
  go_end0
  have HQ1 := HQ.out.below HT.out (below_alloc (Below.refl w.heap.size w) (.cells #[.int .i64 0, .int .u64 (k : Int)] 42))
  exact ⟨rfl, p, HQ1.i, HQ1.b, FrP.below p (below_alloc (Below.refl w.heap.size w) _)⟩

set_option maxHeartbeats 1000000 in
set_option maxRecDepth 100000 in
theorem walk_rec (w0 w : World) (gp gt gw h k c K j : Nat) (fb : Bool) (m1 m2 : Int) (A A2 : Option Addr) (L : List Int) (I : World → List (Nat × Nat) → (Nat → Prop) → Prop) (T : Told w0 gp I) (ys us zs : List (Nat × Nat)) (p : Nat → Prop)
    (q : WI w0 w gp gt gw I ys p) (hn : ((L.length : Int) == 0) = false)
    (hh : cover_halves.f ((h + 1 : Nat) : Int) k = some ((h : Int), ((2 * k : Nat) : Int), (h : Int), ((2 * k + 1 : Nat) : Int)))
    (hi : cover_items.f h ((2 * k + 1 : Nat) : Int) = some (m1, m2))
    (hC : Kd.C (Kd.int .u64) w0 A L.length L) (hc : L.length ≤ c) (hbs : slices_BinarySearch_uint64_uint64.f K L m1 = some ((j : Int), fb))
    (hsl : ∀ W : World, (Instr.slice 23 (.slice A L.length c) (some (.int .i64 (j : Int))) none none).run Try.prog W = .ok (.slice A2 (L.length - j) (c - j)) W)
    (hst : ∀ W : World, (Instr.slice 23 (.slice A L.length c) none (some (.int .i64 (j : Int))) none).run Try.prog W = .ok (.slice A j c) W)
    (ihL : ∀ (w : World) (p : Nat → Prop), WI w0 w gp gt gw I ys p → Calls Try.prog 28 #[.agg #[.int .i64 (h : Int), .int .u64 ((2 * k : Nat) : Int)], .slice A j c, .pointer (some ⟨gt, 0, none⟩), .pointer (some ⟨gw, 0, none⟩)] w (Wp w0 w I p us))
    (ihR : ∀ (w : World) (p : Nat → Prop), WI w0 w gp gt gw I us p → Calls Try.prog 28 #[.agg #[.int .i64 (h : Int), .int .u64 ((2 * k + 1 : Nat) : Int)], .slice A2 (L.length - j) (c - j), .pointer (some ⟨gt, 0, none⟩), .pointer (some ⟨gw, 0, none⟩)] w (Wp w0 w I p zs)) :
    Calls Try.prog 28 #[.agg #[.int .i64 ((h + 1 : Nat) : Int), .int .u64 (k : Int)], .slice A L.length c, .pointer (some ⟨gt, 0, none⟩), .pointer (some ⟨gw, 0, none⟩)] w
      (Wp w0 w I p zs) := by
  have HT := Aside0.mk T
  have HQ := Aside0.mk q
  have HH := Aside0.mk hh
  have HI := Aside0.mk hi
  have HC := Aside0.mk hC
  have HBS := Aside0.mk hbs
  have IL := Aside0.mk ihL
  have IR := Aside0.mk ihR
  have HSL := Aside0.mk hsl
  have HST := Aside0.mk hst
  have hpos : (0 : Int) < ((h + 1 : Nat) : Int) := by omega
  obtain ⟨hh1, hh1e⟩ : ∃ x : Int, x = ((h + 1 : Nat) : Int) := ⟨_, rfl⟩
  rw [← hh1e] at HH hpos ⊢
  clear hh1e
  obtain ⟨k1, hk1⟩ : ∃ x : Int, x = ((2 * k : Nat) : Int) := ⟨_, rfl⟩
  obtain ⟨k2, hk2⟩ : ∃ x : Int, x = ((2 * k + 1 : Nat) : Int) := ⟨_, rfl⟩
  rw [← hk1, ← hk2] at HH
  rw [← hk2] at HI IR
  rw [← hk1] at IL
  clear T q hh hi hC hbs ihL ihR hk1 hk2 hsl hst
  go_enter Try.func28, Try.ntmps28
  go_wp2_with (fail)
  refine (cover_halves.calls hh1 k h k1 h k2 _ HH.out).mono ?_
  rintro e w1 ⟨rfl, hb1⟩
  have hbb : Below w.heap.size w w1 := below_step (below_alloc (Below.refl _ _) _) hb1
  have HBB := Aside0.mk hbb
  clear hbb hb1
  go_wp2_with (fail)
  refine (cover_items.calls h k2 m1 m2 _ HI.out).mono ?_
  rintro e w2 ⟨rfl, hb2⟩
  have hbox1 : w2.heap[w1.heap.size]? = some (.cells #[.int .i64 (h : Int), .int .u64 k1] 42 (0, 0)) := blk_below (blk_alloc (blk_new w1 (.cells #[.int .i64 (h : Int), .int .u64 k1] 42)) (.cells #[.int .i64 (h : Int), .int .u64 k2] 42)) hb2
  have hbox2 : w2.heap[w1.heap.size + 1]? = some (.cells #[.int .i64 (h : Int), .int .u64 k2] 42 (0, 0)) := by
    have := blk_below (blk_new (w1.alloc (.cells #[.int .i64 (h : Int), .int .u64 k1] 42)) (.cells #[.int .i64 (h : Int), .int .u64 k2] 42)) hb2
    simpa using this
  have hbb2 : Below w.heap.size w w2 := below_step (below_alloc (below_alloc HBB.out (.cells #[.int .i64 (h : Int), .int .u64 k1] 42)) (.cells #[.int .i64 (h : Int), .int .u64 k2] 42)) hb2
  have HBX := Aside0.mk (And.intro hbox1 hbox2)
  have HBB2 := Aside0.mk hbb2
  have HQ2 := Aside0.mk (HQ.out.below HT.out hbb2)
  clear hbox1 hbox2 hbb2 hb2
  go_wp2_with (fail)
  refine (slices_BinarySearch_uint64_uint64.calls K A c L m1 j fb _ (Kd.C_below HC.out HQ2.out.b) hc HBS.out).mono ?_
  rintro e w3 ⟨rfl, ⟨nd, rfl⟩⟩
  have hqg := cell_of_one HQ2.out.g
  have hx0 : w2.cell? ⟨w1.heap.size, 0, none⟩ = some (.int .i64 (h : Int)) := (blk_cell HBX.out.1 0).trans rfl
  have hx1 : w2.cell? ⟨w1.heap.size, 1, none⟩ = some (.int .u64 k1) := (blk_cell HBX.out.1 1).trans rfl
  have hst := HST.out
  go_wp2_with (fail)
  refine wp_region_still_tail 5 (by kernel_rfl) (by kernel_rfl) ?_
  simp only [List.take_succ_cons, List.take_zero, List.drop_succ_cons, List.drop_zero]
  change wpStill _ _ (w2.drewN (nd + 1)) _ _ _
  repeat still_step
  refine wpStill_nil ?_
  change wpList _ _ _ _ _ (w2.drewN (nd + 1))
  go_wp2_with (fail)
  have hbd : Below w2.heap.size w2 (w2.drewN (nd + 1)) := below_drewN (Below.refl _ _) _
  have HBD := Aside0.mk hbd
  refine (IL.out _ p (HQ2.out.below HT.out hbd)).mono ?_
  rintro e w4 ⟨rfl, p4, hi4, hb4, hf4⟩
  have HQ4 := Aside0.mk ((HQ2.out.below HT.out HBD.out).next hi4 hb4 hf4)
  have HF4 := Aside0.mk ((FrP.below p (below_weaken HBB2.out HBB2.out.size HBD.out)).trans hf4)
  have hbx : w4.heap[w1.heap.size + 1]? = some (.cells #[.int .i64 (h : Int), .int .u64 k2] 42 (0, 0)) := by
    refine (hf4.keep _ (Nat.lt_of_lt_of_le (blk_lt HBX.out.2) HBD.out.size) (fun hp => ?_)).trans (blk_below HBX.out.2 HBD.out)
    have := (HT.out.priv HQ.out.i _ hp).1
    have := HBB.out.size
    omega
  have HBX4 := Aside0.mk hbx
  clear hqg hx0 hx1 hst hi4 hb4 hf4 hbd hbx
  go_wp2_with (fail)
  have hqg := cell_of_one HQ4.out.g
  have hx0 : w4.cell? ⟨w1.heap.size + 1, 0, none⟩ = some (.int .i64 (h : Int)) := (blk_cell HBX4.out 0).trans rfl
  have hx1 : w4.cell? ⟨w1.heap.size + 1, 1, none⟩ = some (.int .u64 k2) := (blk_cell HBX4.out 1).trans rfl
  have hst := HSL.out
  refine wp_region_still_tail 5 (by kernel_rfl) (by kernel_rfl) ?_
  simp only [List.take_succ_cons, List.take_zero, List.drop_succ_cons, List.drop_zero]
  change wpStill _ _ (w4.drewN 1) _ _ _
  repeat still_step
  refine wpStill_nil ?_
  change wpList _ _ _ _ _ (w4.drewN 1)
  go_wp2_with (fail)
  have hbd : Below w4.heap.size w4 (w4.drewN 1) := below_drewN (Below.refl _ _) _
  have HBD4 := Aside0.mk hbd
  refine (IR.out _ p4 (HQ4.out.below HT.out hbd)).mono ?_
  rintro e w5 ⟨rfl, p5, hi5, hb5, hf5⟩
  have HF5 := Aside0.mk (HF4.out.trans ((FrP.below p4 HBD4.out).trans hf5))
  have H5 := Aside0.mk (And.intro hi5 hb5)
  clear hqg hx0 hx1 hst hi5 hb5 hf5 hbd
  go_wp2
  go_end0
  exact ⟨rfl, p5, H5.out.1, H5.out.2, HF5.out⟩
theorem walk_calls (w0 : World) (gp gt gw : Nat) (I : World → List (Nat × Nat) → (Nat → Prop) → Prop) (T : Told w0 gp I) : ∀ (h k : Nat), May h k → ∀ (l : List Int) (A : Option Addr) (c : Nat), Kd.C (Kd.int .u64) w0 A l.length l → l.length ≤ c → l.Pairwise (· < ·) →
    ∀ (ys : List (Nat × Nat)) (w : World) (p : Nat → Prop), WI w0 w gp gt gw I ys p → ys.length + 2 ^ h ≤ 4398046511104 →
    Calls Try.prog 28 #[.agg #[.int .i64 (h : Int), .int .u64 (k : Int)], .slice A l.length c, .pointer (some ⟨gt, 0, none⟩), .pointer (some ⟨gw, 0, none⟩)] w
      (Wp w0 w I p (ys ++ wrest h k l)) := by
  intro h
  induction h with
  | zero =>
    intro k m l A c hC hc hp ys w p q hl
    cases l with
    | nil => rw [wrest_nil]; exact walk_empty w0 w gp gt gw 0 k c A I T ys p q (by omega)
    | cons x l =>
      rw [show wrest 0 k (x :: l) = [] from rfl, List.append_nil]
      exact walk_leaf w0 w gp gt gw k (x :: l).length c A I T ys p q (by simp; omega)
  | succ h ih =>
    intro k m l A c hC hc hp ys w p q hl
    cases l with
    | nil => rw [wrest_nil]; exact walk_empty w0 w gp gt gw (h + 1) k c A I T ys p q (by have := two_pow_pos (h + 1); omega)
    | cons x l0 =>
      obtain ⟨l, hel⟩ : ∃ l, l = x :: l0 := ⟨_, rfl⟩
      have hw : wrest (h + 1) k (x :: l0) = wrest h (2 * k) (l.take (cutI (((2 * k + 1) * 2 ^ h : Nat) : Int) l)) ++ wrest h (2 * k + 1) (l.drop (cutI (((2 * k + 1) * 2 ^ h : Nat) : Int) l)) := by rw [hel, wrest]
      rw [hw]
      have hne : l.length ≠ 0 := by rw [hel]; simp
      rw [← hel] at hC hc hp ⊢
      have hlen : l.length ≤ 9223372036854775807 := Nat.le_trans hC.2.1 (by decide)
      obtain ⟨b, hb⟩ := bsearch l (((2 * k + 1) * 2 ^ h : Nat) : Int) hp hlen
      have hj := cutI_le (((2 * k + 1) * 2 ^ h : Nat) : Int) l
      generalize cutI (((2 * k + 1) * 2 ^ h : Nat) : Int) l = j at *
      have elt : (l.take j).length = j := by rw [List.length_take]; omega
      have eld : (l.drop j).length = l.length - j := List.length_drop
      have ep : 2 ^ (h + 1) = 2 * 2 ^ h := by rw [Nat.pow_succ, Nat.mul_comm]
      have hle := wrest_le h (2 * k) (l.take j)
      rw [← List.append_assoc]
      have hCt := Kd.C_take hC hj
      have hCd := Kd.C_drop (c := c) hC hj hc
      have hpt : (l.take j).Pairwise (· < ·) := hp.sublist (List.take_sublist ..)
      have hpd : (l.drop j).Pairwise (· < ·) := hp.sublist (List.drop_sublist ..)
      refine walk_rec w0 w gp gt gw h k c (l.length + 1) j b _ _ A (if c = j then A else A.map (·.add (j * (Kd.int .u64).sz))) l I T ys (ys ++ wrest h (2 * k) (l.take j)) _ p q (by rw [beq_eq_false_iff_ne]; omega) (cover_halves.is h k m) (cover_items.is h (2 * k + 1) m.right) hC hc hb ?_ ?_ ?_ ?_
      · obtain ⟨i0, hi0, _, hsz, _⟩ := info_parts info22
        have := cut_from (P := Try.prog) 23 22 .i64 Try.underlying23 hi0 1 hsz A l.length c (j : Int) (by omega) (by omega)
        intro W
        rw [this W]
        rfl
      · obtain ⟨i0, hi0, _, hsz, _⟩ := info_parts info22
        have := cut_to (P := Try.prog) 23 22 .i64 Try.underlying23 hi0 A l.length c (j : Int) (by omega) (by omega) hc
        intro W
        rw [this W]
        rfl
      · intro w p q
        have := ih (2 * k) m.left (l.take j) A c hCt (by omega) hpt ys w p q (by omega)
        rw [elt] at this
        exact this
      · intro w p q
        have := ih (2 * k + 1) m.right (l.drop j) _ (c - j) hCd (by omega) hpd (ys ++ wrest h (2 * k) (l.take j)) w p q (by rw [List.length_append]; omega)
        rw [eld] at this
        exact this
theorem two_pow_pos' (n : Nat) : 0 < 2 ^ n := Nat.two_pow_pos n
def tf (gp : Nat) : Value := .func (.func 20) #[] #[.pointer (some ⟨gp, 0, none⟩)]
/-- The post of the inner rest. -/
def Rp (w0 w : World) (I : World → List (Nat × Nat) → (Nat → Prop) → Prop) (p : Nat → Prop) (code : Int) (ys : List (Nat × Nat)) (e : Ending) (w' : World) : Prop :=
  e = .returned (.int .i64 code) ∧ ∃ p', I w' ys p' ∧ Below w0.heap.size w0 w' ∧ FrP w w' p p'
set_option maxHeartbeats 1000000 in
set_option maxRecDepth 100000 in
theorem rest_many (K n c gp : Nat) (A : Option Addr) (l : List Int) (w0 w : World) (I : World → List (Nat × Nat) → (Nat → Prop) → Prop) (T : Told w0 gp I) (p : Nat → Prop) (hi : I w [] p) (hb : Below w0.heap.size w0 w) (hK : cover_Mountains.f K n = some ([], 30)) :
    Calls Try.prog 18 #[.int .u64 n, .slice A l.length c, tf gp] w (Rp w0 w I p 30 []) := by
  have HT := Aside0.mk T
  have HI := Aside0.mk hi
  have HB := Aside0.mk hb
  have HK := Aside0.mk hK
  clear T hi hb hK
  unfold tf
  go_enter Try.func18, Try.ntmps18
  go_wp2_with (fail)
  refine (cover_Mountains.calls K n [] 30 _ HK.out).mono ?_
  rintro e w1 ⟨vm, rfl, hr, hb1⟩
  have HB1 := Aside0.mk (below_step (below_alloc (Below.refl w.heap.size w) _) hb1)
  clear hr hb1
  go_wp2
  go_ret
  exact ⟨rfl, p, Told.below HT.out HI.out HB1.out, below_weaken HB.out HB.out.size HB1.out, FrP.below p HB1.out⟩
set_option maxHeartbeats 1000000 in
set_option maxRecDepth 100000 in
theorem rest_empty (K n c gp : Nat) (A : Option Addr) (ms : List (Nat × Nat)) (w0 w : World) (I : World → List (Nat × Nat) → (Nat → Prop) → Prop) (T : Told w0 gp I) (p : Nat → Prop) (hi : I w [] p) (hb : Below w0.heap.size w0 w) (hK : cover_Mountains.f K n = some (blks ms, 0)) :
    Calls Try.prog 18 #[.int .u64 n, .slice A 0 c, tf gp] w (Rp w0 w I p 40 []) := by
  have HT := Aside0.mk T
  have HI := Aside0.mk hi
  have HB := Aside0.mk hb
  have HK := Aside0.mk hK
  clear T hi hb hK
  unfold tf
  go_enter Try.func18, Try.ntmps18
  go_wp2_with (fail)
  refine (cover_Mountains.calls K n (blks ms) 0 _ HK.out).mono ?_
  rintro e w1 ⟨vm, rfl, hr, hb1⟩
  have HB1 := Aside0.mk (below_step (below_alloc (Below.refl w.heap.size w) _) hb1)
  clear hr hb1
  go_wp2
  go_ret
  exact ⟨rfl, p, Told.below HT.out HI.out HB1.out, below_weaken HB.out HB.out.size HB1.out, FrP.below p HB1.out⟩
set_option maxHeartbeats 2000000 in
set_option maxRecDepth 100000 in
theorem rest_some (K n c gp N : Nat) (A : Option Addr) (l : List Int) (ms : List (Nat × Nat)) (w0 w : World) (I : World → List (Nat × Nat) → (Nat → Prop) → Prop) (T : Told w0 gp I) (p : Nat → Prop) (hi : I w [] p) (hb : Below w0.heap.size w0 w) (hK : cover_Mountains.f K n = some (blks ms, 0))
    (hm : ∀ b ∈ ms, May b.1 b.2) (hl : ms.length ≤ 64)
    (hs : ∀ i, i ≤ ms.length → ((ms.take i).map fun b => 2 ^ b.1).sum + 1099511627776 ≤ 4398046511104)
    (hC : Kd.C (Kd.int .u64) w0 A l.length l) (hc : l.length ≤ c) (hN : l.length = N + 1)
    (code : Int) (zs : List (Nat × Nat)) (h40 : ¬ l.Pairwise (· < ·) → code = 40 ∧ zs = [])
    (h31 : l.Pairwise (· < ·) → (n : Int) ≤ rd l (N : Int) → code = 31 ∧ zs = [])
    (h0 : l.Pairwise (· < ·) → rd l (N : Int) < (n : Int) → code = 0 ∧ zs = restAll ms l) :
    Calls Try.prog 18 #[.int .u64 n, .slice A l.length c, tf gp] w (Rp w0 w I p code zs) := by
  have hne : ((l.length : Int) == 0) = false := by rw [beq_eq_false_iff_ne]; omega
  have HT := Aside0.mk T
  have HI := Aside0.mk hi
  have HB := Aside0.mk hb
  have HK := Aside0.mk hK
  have HC := Aside0.mk hC
  have Hc := Aside0.mk hc
  have HM := Aside0.mk hm
  have HL := Aside0.mk hl
  have HS := Aside0.mk hs
  have HN := Aside0.mk hN
  have HP := Aside0.mk (And.intro h40 (And.intro h31 h0))
  clear T hi hb hK hC hc hm hl hs h40 h31 h0 hN
  unfold tf
  go_enter Try.func18, Try.ntmps18
  go_wp2_with (fail)
  refine (cover_Mountains.calls K n (blks ms) 0 _ HK.out).mono ?_
  rintro e w1 ⟨vm, rfl, hr, hb1⟩
  have HW := Aside0.mk (blk_below (blk_new w (.cells #[.func (.func 20) #[] #[.pointer (some ⟨gp, 0, none⟩)]] 45)) hb1)
  have HB1 := Aside0.mk (below_step (below_alloc (Below.refl w.heap.size w) _) hb1)
  obtain ⟨Am, cm, hvm, hcm, _⟩ := Kd.R_reads hr
  subst hvm
  have HLb := Aside0.mk (blks_length ms)
  have HR := Aside0.mk hr
  have HB2 := Aside0.mk (below_weaken HB.out HB.out.size HB1.out)
  have HC1 := Aside0.mk (Kd.C_below HC.out HB2.out)
  clear hr hb1
  go_wp2
  go_loopg [9] N (fun kq v9 w' => ∃ (m : Nat) (x9 : Int), v9 = .int .i64 x9 ∧ Aside0 (x9 = ((m + 1 : Nat) : Int)) ∧ Aside0 (m + kq = N) ∧ Aside0 ((l.take (m + 1)).Pairwise (· < ·)) ∧ Aside0 (Below w1.heap.size w1 w'))
  case atStart => exact ⟨0, 1, (by first | rfl | (simp; done)), ⟨by omega⟩, ⟨by omega⟩, ⟨by
    rw [List.take_succ_eq_append_getElem (by have := HN.out; omega)]; simp⟩, ⟨Below.refl _ _⟩⟩
  case round =>
    obtain ⟨m, x9, rfl, HX, HMK, HA, HD⟩ := hrel
    obtain ⟨wq, hwq⟩ : ∃ x : World, x = wr := ⟨_, rfl⟩
    subst hwq
    have HBr := Aside0.mk (below_weaken HB1.out HB1.out.size HD.out)
    have HCr := Aside0.mk (Kd.C_below HC1.out HD.out)
    cases gk with
    | zero =>
      have hlt : decide (x9 < (l.length : Int)) = false := decide_eq_false (by have := HN.out; have := HX.out; have := HMK.out; omega)
      have hasc : l.Pairwise (· < ·) := by have h := HA.out; rwa [List.take_of_length_le (by have := HN.out; have := HMK.out; omega)] at h
      have HASC := Aside0.mk hasc
      clear hasc
      obtain ⟨jx, hjx⟩ : ∃ j_ : Int, wrap64 ((l.length : Int) - 1) = j_ := ⟨_, rfl⟩
      have hjN : jx = (N : Int) := by rw [← hjx, HN.out]; have := HC1.out.2.1; have := HN.out; rw [wrap64_in _ (by omega) (by omega)]; omega
      have hlp : 0 ≤ jx := by omega
      have hlq : jx < (l.length : Int) := by have := HN.out; omega
      obtain ⟨ad, e1, hx⟩ := Kd.at_int HCr.out jx hlp hlq
      have HJ := Aside0.mk hjN
      cases e1
      clear hjN
      replace hlp := eq_true hlp
      replace hlq := eq_true hlq
      by_cases hge : (n : Int) ≤ rd l jx
      · have hgeb : decide ((n : Int) ≤ rd l jx) = true := decide_eq_true hge
        have HGE := Aside0.mk hge
        clear hge
        go_wp2_with (fail)
        go_ret
        have hw := HP.out.2.1 HASC.out (by rw [← HJ.out]; exact HGE.out)
        rw [hw.1, hw.2]
        exact ⟨rfl, p, Told.below HT.out HI.out HBr.out, below_weaken HB.out HB.out.size HBr.out, FrP.below p HBr.out⟩
      · have hgeb : decide ((n : Int) ≤ rd l jx) = false := decide_eq_false hge
        have HGE := Aside0.mk hge
        clear hge
        have hz := HP.out.2.2 HASC.out (by rw [← HJ.out]; have := HGE.out; omega)
        obtain ⟨hz1, hz2⟩ := hz
        subst hz1
        have HZ := Aside0.mk hz2
        clear hz2
        go_wp2_with (fail)
        obtain ⟨wS, hwS⟩ : ∃ wS : World, wS = wq.alloc (.cells #[.func (.func 28) #[] #[.pointer (some ⟨w.heap.size, 0, none⟩), .pointer (some ⟨wq.heap.size, 0, none⟩)]] 54) := ⟨_, rfl⟩
        have hbS : Below wq.heap.size wq wS := by rw [hwS]; exact below_alloc (Below.refl _ _) _
        have HBS := Aside0.mk (below_weaken HBr.out HBr.out.size hbS)
        have hwi : WI w0 wS gp w.heap.size wq.heap.size I [] p := by
          refine ⟨blk_below (blk_below HW.out HD.out) hbS, by rw [hwS]; exact blk_new _ _, Told.below HT.out HI.out HBS.out, fun h => ?_, fun h => ?_, below_weaken HB.out HB.out.size HBS.out⟩
          · have := (HT.out.priv HI.out _ h).1; omega
          · have := (HT.out.priv HI.out _ h).1; have := HBr.out.size; omega
        have HWI := Aside0.mk hwi
        have HRS := Aside0.mk (Kd.R_mono (Kd.R_bound (Kd.R_below (Kd.R_below HR.out HD.out) hbS)) (fun k hk => show ¬ p k from fun h => by
          have h1 := (HT.out.priv HI.out _ h).1
          have h2 := hk.2.1
          simp at h2
          omega))
        have HCR := Aside0.mk (And.intro (Kd.R_reads HRS.out) trivial)
        rw [← hwS]
        have HWS := Aside0.mk hwS
        clear hbS hwi hwS hx hjx hlp hlq hlt hgeb
        go_loopg [1, 55] ms.length (fun kq v1 v55 w' => ∃ (i : Nat) (A' : Option Addr) (c' : Nat) (l' : List Int) (ys : List (Nat × Nat)) (p' : Nat → Prop), v1 = .slice A' l'.length c' ∧ v55 = .int .i64 i ∧ Aside0 (i + kq = ms.length) ∧ Aside0 (WI w0 w' gp w.heap.size wq.heap.size I ys p') ∧ Aside0 (FrP wS w' p p') ∧ Aside0 (ys ++ restAll (ms.drop i) l' = restAll ms l) ∧ Aside0 (ys.length ≤ ((ms.take i).map fun b => 2 ^ b.1).sum) ∧ Aside0 (Kd.C (Kd.int .u64) w0 A' l'.length l' ∧ l'.length ≤ c' ∧ l'.Pairwise (· < ·)))
        case atStart => exact ⟨0, _, c, l, [], p, rfl, (by first | rfl | (simp; done)), ⟨by omega⟩, HWI, ⟨FrP.refl _ _⟩, ⟨rfl⟩, ⟨by simp⟩, ⟨HC.out, Hc.out, HASC.out⟩⟩
        case round =>
          obtain ⟨i, A', c', l', ys, p', rfl, rfl, HIk, HQ, HF, HY, HYL, HCL⟩ := hrel
          have HRr := Aside0.mk (Kd.R_step HRS.out (fun k hk hlt => HF.out.keep k hlt hk))
          cases gk with
          | zero =>
            have hlt : decide (i < (blks ms).length) = false := decide_eq_false (by have := HLb.out; have := HIk.out; omega)
            have hd : ms.drop i = [] := List.drop_eq_nil_of_le (by have := HIk.out; omega)
            rw [hd, show restAll [] l' = [] from rfl, List.append_nil] at HY
            clear hd
            go_wp2
            go_ret
            rw [HZ.out, ← HY.out]
            exact ⟨rfl, p', HQ.out.i, HQ.out.b, (FrP.below p (HBS.out)).trans HF.out⟩
          | succ k1 =>
            have hil : i < ms.length := by have := HIk.out; omega
            have hlt : decide (i < (blks ms).length) = true := decide_eq_true (by have := HLb.out; omega)
            obtain ⟨A3, c3, hv3, hc3, hC3⟩ := Kd.R_reads HRr.out
            cases hv3
            obtain ⟨adm, ea, hx0, hx1⟩ := at_T42 hC3 (i : Int) (by omega) (by have := HLb.out; omega)
            subst ea
            rw [blks_get ms i hil, Int.toNat_natCast] at hx0 hx1
            obtain ⟨bh, hbh⟩ : ∃ x : Nat, x = ms[i].1 := ⟨_, rfl⟩
            obtain ⟨bk, hbk⟩ : ∃ x : Nat, x = ms[i].2 := ⟨_, rfl⟩
            have HMM := Aside0.mk (HM.out _ (List.getElem_mem hil))
            rw [← hbh, ← hbk] at HMM
            have HX2 := Aside0.mk (And.intro hbh hbk)
            have hx0' : wr.cell? (adm.add (i * 2)) = some (.int .i64 (bh : Int)) := by rw [hx0, hbh]
            have hx1' : wr.cell? ⟨(adm.add (i * 2)).block, (adm.add (i * 2)).off + 1, none⟩ = some (.int .u64 (bk : Int)) := by rw [hx1, hbk]
            have HIL := Aside0.mk hil
            have hbx := blk_new wr (.cells #[.int .i64 (bh : Int), .int .u64 (bk : Int)] 42)
            have HBX := Aside0.mk hbx
            clear hx0 hx1 hbh hbk hc3 hC3 hbx
            have hqn : i < (blks ms).length := by have := HLb.out; omega
            have hib : (i : Int) < 64 := by have := HL.out; omega
            go_wp2_with (fail)
            obtain ⟨m1, hm1⟩ : ∃ x : Int, x = ((bk * 2 ^ bh : Nat) : Int) := ⟨_, rfl⟩
            obtain ⟨m2, hm2⟩ : ∃ x : Int, x = (((bk + 1) * 2 ^ bh : Nat) : Int) := ⟨_, rfl⟩
            have HIT := Aside0.mk (cover_items.is bh bk HMM.out)
            rw [← hm1, ← hm2] at HIT
            have HM2 := Aside0.mk hm2
            clear hm1 hm2
            refine (cover_items.calls bh bk m1 m2 _ HIT.out).mono ?_
            rintro e w2 ⟨rfl, hb2⟩
            have hb2' : Below wr.heap.size wr w2 := below_step (below_alloc (Below.refl _ _) (.cells #[.int .i64 (bh : Int), .int .u64 (bk : Int)] 42)) hb2
            have HB2' := Aside0.mk hb2'
            have HBX2 := Aside0.mk (blk_below HBX.out hb2)
            have HQ2 := Aside0.mk (HQ.out.below HT.out hb2')
            have hlen : l'.length ≤ 9223372036854775807 := Nat.le_trans HCL.out.1.2.1 (by decide)
            obtain ⟨bb, hbb⟩ := bsearch l' m2 HCL.out.2.2 hlen
            have HBS2 := Aside0.mk hbb
            have HJ2 := Aside0.mk (cutI_le m2 l')
            clear hx0' hx1' hb2 hb2' hlen hbb
            go_wp2_with (fail)
            refine (slices_BinarySearch_uint64_uint64.calls (l'.length + 1) A' c' l' m2 _ bb _ (Kd.C_below HCL.out.1 HQ2.out.b) HCL.out.2.1 HBS2.out).mono ?_
            rintro e w3 ⟨rfl, ⟨nd, rfl⟩⟩
            obtain ⟨j, hj⟩ : ∃ j, j = cutI m2 l' := ⟨_, rfl⟩
            rw [← hj] at HJ2 ⊢
            have HJE := Aside0.mk hj
            have hqg := cell_of_one HQ2.out.g
            have hy0 : w2.cell? ⟨wr.heap.size, 0, none⟩ = some (.int .i64 (bh : Int)) := (blk_cell HBX2.out 0).trans rfl
            have hy1 : w2.cell? ⟨wr.heap.size, 1, none⟩ = some (.int .u64 (bk : Int)) := (blk_cell HBX2.out 1).trans rfl
            obtain ⟨i0, hi0, _, hsz, _⟩ := info_parts info22
            have hst : ∀ W : World, (Instr.slice 23 (.slice A' l'.length c') none (some (.int .i64 (j : Int))) none).run Try.prog W = .ok (.slice A' j c') W := by
              have := cut_to (P := Try.prog) 23 22 .i64 Try.underlying23 hi0 A' l'.length c' (j : Int) (by omega) (by have := HJ2.out; omega) HCL.out.2.1
              intro W
              rw [this W]
              rfl
            obtain ⟨A2, hA2⟩ : ∃ A2 : Option Addr, A2 = (if c' = j then A' else A'.map (·.add (j * (Kd.int .u64).sz))) := ⟨_, rfl⟩
            have HC2 := Aside0.mk (Kd.C_drop (c := c') HCL.out.1 HJ2.out HCL.out.2.1)
            rw [← hA2] at HC2
            have HSL : Aside0 (∀ W : World, (Instr.slice 23 (.slice A' l'.length c') (some (.int .i64 (j : Int))) none none).run Try.prog W = .ok (.slice A2 (l'.length - j) (c' - j)) W) := by
              have := cut_from (P := Try.prog) 23 22 .i64 Try.underlying23 hi0 1 hsz A' l'.length c' (j : Int) (by omega) (by have := HJ2.out; omega)
              refine ⟨fun W => ?_⟩
              rw [hA2, this W]
              rfl
            clear hj hi0 hsz hA2
            go_wp2_with (fail)
            refine wp_region_still_tail 5 (by kernel_rfl) (by kernel_rfl) ?_
            simp only [List.take_succ_cons, List.take_zero, List.drop_succ_cons, List.drop_zero]
            change wpStill _ _ (w2.drewN (nd + 1)) _ _ _
            repeat still_step
            refine wpStill_nil ?_
            change wpList _ _ _ _ _ (w2.drewN (nd + 1))
            go_wp2_with (fail)
            have hbd : Below w2.heap.size w2 (w2.drewN (nd + 1)) := below_drewN (Below.refl _ _) _
            have HBD := Aside0.mk hbd
            have elt : (l'.take j).length = j := by rw [List.length_take]; have := HJ2.out; omega
            have hcall := walk_calls w0 gp w.heap.size wq.heap.size I HT.out bh bk HMM.out (l'.take j) A' c' (Kd.C_take HCL.out.1 HJ2.out) (by rw [elt]; have := HJ2.out; have := HCL.out.2.1; omega) (HCL.out.2.2.sublist (List.take_sublist ..)) ys _ p' (HQ2.out.below HT.out hbd) (by
              have h1 := HS.out i (by omega)
              have h2 := HMM.out.pow
              have h3 := HYL.out
              omega)
            rw [elt] at hcall
            refine hcall.mono ?_
            rintro e w4 ⟨rfl, p4, hi4, hb4, hf4⟩
            have HQ4 := Aside0.mk ((HQ2.out.below HT.out HBD.out).next hi4 hb4 hf4)
            have HF4 := Aside0.mk (HF.out.trans ((FrP.below p' (below_weaken HB2'.out HB2'.out.size HBD.out)).trans hf4))
            clear hqg hy0 hy1 hst hi4 hb4 hf4 hbd hcall elt
            have hst := HSL.out
            go_wp2
            go_roundg k1
            case measure => omega
            case rel =>
              have eld : (l'.drop j).length = l'.length - j := List.length_drop
              have hdr : ms.drop i = ms[i] :: ms.drop (i + 1) := List.drop_eq_getElem_cons hil
              refine ⟨i + 1, A2, c' - j, l'.drop j, ys ++ wrest bh bk (l'.take j), p4, by rw [eld], (by first | rfl | (simp; done)), ⟨by have := HIk.out; omega⟩, HQ4, HF4, ⟨?_⟩, ⟨?_⟩, ⟨HC2.out, ?_, HCL.out.2.2.sublist (List.drop_sublist ..)⟩⟩
              · rw [← HY.out, hdr, restAll, ← HX2.out.1, ← HX2.out.2, ← HM2.out, ← HJE.out, List.append_assoc]
              · rw [List.length_append, List.take_succ_eq_append_getElem hil, List.map_append, List.sum_append, List.map_cons, List.map_nil, List.sum_cons, List.sum_nil, ← HX2.out.1]
                have h1 := HYL.out
                have h2 := wrest_le bh bk (l'.take j)
                omega
              · rw [eld]; have := HCL.out.2.1; omega
    | succ k1 =>
      have hml : m + 1 < l.length := by have := HN.out; have := HMK.out; omega
      have hlt : decide (x9 < (l.length : Int)) = true := decide_eq_true (by have := HX.out; omega)
      obtain ⟨jx, hjx⟩ : ∃ j_ : Int, wrap64 (x9 - 1) = j_ := ⟨_, rfl⟩
      have hjw : IntKind.i64.wrap (x9 - 1) = jx := (i64_w _).trans hjx
      have hjN : jx = (m : Int) := by rw [← hjx, HX.out]; have := HC1.out.2.1; rw [wrap64_in _ (by omega) (by omega)]; omega
      have hlp : 0 ≤ jx := by omega
      have hlq : jx < (l.length : Int) := by omega
      have hlp9 : 0 ≤ x9 := by have := HX.out; omega
      have hlq9 : x9 < (l.length : Int) := by have := HX.out; omega
      obtain ⟨ad, e1, hx⟩ := Kd.at_int HCr.out jx hlp hlq
      obtain ⟨ad2, e2, hx9⟩ := Kd.at_int HCr.out x9 hlp9 hlq9
      cases e1
      cases e2
      have hm0 : m < l.length := Nat.lt_of_succ_lt hml
      have hra : rd l jx = l[m]'hm0 := by rw [hjN]; exact rd_at l m hm0
      have hrb : rd l x9 = l[m + 1]'hml := by rw [HX.out]; exact rd_at l (m + 1) hml
      have hqa : rd l x9 ≤ rd l jx → ¬ l.Pairwise (· < ·) := fun h => asc_not l m hml (by rw [hra, hrb] at h; exact h)
      have hqb : ¬ rd l x9 ≤ rd l jx → (l.take (m + 2)).Pairwise (· < ·) := fun h => asc_step l m hml HA.out (by rw [hra, hrb] at h; omega)
      have HQA := Aside0.mk hqa
      have HQB := Aside0.mk hqb
      have HML := Aside0.mk hml
      clear hqa hqb
      clear hra hrb
      clear hjN
      replace hlp := eq_true hlp
      replace hlq := eq_true hlq
      replace hlp9 := eq_true hlp9
      replace hlq9 := eq_true hlq9
      clear hm0
      clear hml
      by_cases hge : rd l x9 ≤ rd l jx
      · have hgeb : decide (rd l x9 ≤ rd l jx) = true := decide_eq_true hge
        have HGE := Aside0.mk hge
        clear hge
        go_wp2_with (fail)
        refine wp_region_still_lit (by kernel_rfl) (by kernel_rfl) ?_
        change wpStill _ _ (wq.drewN 1) _ _ _
        repeat still_step
        refine wpStill_nil ?_
        change Exit.then _ _ Exit.normal _ (wq.drewN 1)
        go_wp2
        go_ret
        have hw := HP.out.1 (HQA.out HGE.out)
        rw [hw.1, hw.2]
        have hbr := below_drewN HBr.out 1
        exact ⟨rfl, p, Told.below HT.out HI.out hbr, below_weaken HB.out HB.out.size hbr, FrP.below p hbr⟩
      · have hgeb : decide (rd l x9 ≤ rd l jx) = false := decide_eq_false hge
        have HGE := Aside0.mk hge
        clear hge
        go_wp2_with (fail)
        refine wp_region_still_lit (by kernel_rfl) (by kernel_rfl) ?_
        change wpStill _ _ (wq.drewN 1) _ _ _
        repeat still_step
        refine wpStill_nil ?_
        change Exit.then _ _ Exit.normal _ (wq.drewN 1)
        go_wp2
        go_roundg k1
        case measure => omega
        case rel =>
          refine ⟨m + 1, wrap64 (x9 + 1), (by first | rfl | (simp; done)), ⟨?_⟩, ⟨by have := HMK.out; omega⟩, ⟨HQB.out HGE.out⟩, ⟨?_⟩⟩
          · rw [HX.out]; have := HC1.out.2.1; have := HML.out; rw [wrap64_in _ (by omega) (by omega)]; omega
          · first | exact HD.out | exact below_drew HD.out | exact below_drewN HD.out _
theorem rest_calls (n c gp : Nat) (A : Option Addr) (l : List Int) (w0 w : World) (I : World → List (Nat × Nat) → (Nat → Prop) → Prop) (T : Told w0 gp I) (p : Nat → Prop) (hi : I w [] p) (hb : Below w0.heap.size w0 w)
    (hC : Kd.C (Kd.int .u64) w0 A l.length l) (hc : l.length ≤ c) :
    Calls Try.prog 18 #[.int .u64 n, .slice A l.length c, tf gp] w (Rp w0 w I p (restF n l).1 (restF n l).2) := by
  unfold restF
  by_cases h1 : 1099511627776 < n
  · rw [if_pos h1]
    exact rest_many 0 n c gp A l w0 w I T p hi hb (cover_Mountains.no n 0 (by omega))
  rw [if_neg h1]
  have hMs := cover_Mountains.is n 120 (by omega) (by omega)
  by_cases h2 : l = []
  · rw [if_pos h2]
    subst h2
    exact rest_empty 120 n c gp A _ w0 w I T p hi hb hMs
  rw [if_neg h2]
  have hpos : 0 < l.length := List.length_pos_iff.2 h2
  refine rest_some 120 n c gp (l.length - 1) A l (mtS n 41) w0 w I T p hi hb hMs (mtS_may n (by omega) 41 (by omega)) (by have := mtS_len n 41; omega) ?_ hC hc (by omega) _ _ ?_ ?_ ?_
  · intro i _
    have h1' := sum_take (mtS n 41) i
    have h2' := sum_le n 41
    have h3' := Nat.mod_le n (2 ^ 41)
    omega
  · intro h; rw [if_pos h]; exact ⟨rfl, rfl⟩
  · intro h h'; rw [if_neg (by simpa using h), if_pos h']; exact ⟨rfl, rfl⟩
  · intro h h'; rw [if_neg (by simpa using h), if_neg (by omega)]; exact ⟨rfl, rfl⟩

/-- What Count's closure holds: how many have been told. -/
structure IC (w0 : World) (gp : Nat) (w : World) (ys : List (Nat × Nat)) (p : Nat → Prop) : Prop where
  ge : w0.heap.size ≤ gp
  at_ : w.heap[gp]? = some (.cells #[.int .u64 ((ys.length : Nat) : Int)] 22 (0, 0))
  p_ : ∀ k, p k ↔ k = gp
set_option maxHeartbeats 2000000 in
set_option maxRecDepth 100000 in
theorem tell_calls (w0 w : World) (gp h k m : Nat) (p : Nat → Prop) (hge : w0.heap.size ≤ gp) (hcell : w.heap[gp]? = some (.cells #[.int .u64 (m : Int)] 22 (0, 0))) (hp : ∀ k, p k ↔ k = gp)
    (hb : Below w0.heap.size w0 w) (hl : m < 8796093022208) :
    Calls Try.prog 20 #[.agg #[.int .i64 (h : Int), .int .u64 (k : Int)], .pointer (some ⟨gp, 0, none⟩)] w fun e w' => e = .returned (.tuple #[]) ∧ w'.heap[gp]? = some (.cells #[.int .u64 ((m + 1 : Nat) : Int)] 22 (0, 0)) ∧ Below w0.heap.size w0 w' ∧ FrP w w' p p := by
  have HG := Aside0.mk hge
  have HCE := Aside0.mk hcell
  have HP := Aside0.mk hp
  have HB := Aside0.mk hb
  have HL := Aside0.mk hl
  have HC1 := Aside0.mk (blk_alloc hcell (.cells #[.int .i64 (h : Int), .int .u64 (k : Int)] 42))
  have hcp := cell_of_one HC1.out
  have hfp := free_of_one HC1.out
  have HB1 := Aside0.mk (below_alloc hb (.cells #[.int .i64 (h : Int), .int .u64 (k : Int)] 42))
  have HF0 := Aside0.mk (FrP.below p (below_alloc (Below.refl w.heap.size w) (.cells #[.int .i64 (h : Int), .int .u64 (k : Int)] 42)))
  obtain ⟨mi, hmi⟩ : ∃ x : Int, x = (m : Int) := ⟨_, rfl⟩
  rw [← hmi] at hcp
  have HM := Aside0.mk hmi
  clear hmi
  clear hge hcell hp hb hl
  go_enter Try.func20, Try.ntmps20
  go_wp2
  go_end0
  have e : IntKind.u64.wrap (mi + 1) = ((m + 1 : Nat) : Int) := by rw [HM.out]; have := HL.out; rw [wrap_u64_in _ (by omega) (by omega)]; omega
  rw [← e]
  refine ⟨rfl, one_setCell HC1.out, HB1.out.setCell HG.out _, ?_, ?_, fun j hj => .inl hj⟩
  · have h1 := HF0.out.size
    simp at h1 ⊢
  · intro j hj hpj
    have hjg : j ≠ gp := fun e => hpj ((HP.out j).2 e)
    rw [Below.heap_setCell _ _ _ _ hjg]
    exact HF0.out.keep j hj hpj
theorem IC.told (w0 : World) (gp : Nat) : Told w0 gp (IC w0 gp) where
  below := by
    rintro w w' ys p ⟨hg, h1, h3⟩ hb
    exact ⟨hg, blk_below h1 hb, h3⟩
  priv := by
    rintro w ys p ⟨hg, h1, h3⟩ k hk
    have e := (h3 k).1 hk
    subst e; exact ⟨blk_lt h1, hg⟩
  call := by
    rintro w ys p h k ⟨hg, h1, h3⟩ hb hl
    refine (tell_calls w0 w gp h k ys.length p hg h1 h3 hb hl).mono ?_
    rintro e w' ⟨rfl, h4, h5, h6⟩
    exact ⟨rfl, p, ⟨hg, by rw [List.length_append]; exact h4, h3⟩, h5, h6⟩
set_option maxHeartbeats 2000000 in
set_option maxRecDepth 100000 in
theorem Count_calls (n c : Nat) (A : Option Addr) (l : List Int) (w : World) (code : Int) (bs : List (Nat × Nat)) (hF : restF n l = (code, bs)) (hC : Kd.C (Kd.int .u64) w A l.length l) (hc : l.length ≤ c) :
    Calls Try.prog 9 #[.int .u64 n, .slice A l.length c] w fun e w' => e = .returned (.tuple #[.int .u64 (if code = 0 then ((bs.length : Nat) : Int) else 0), .int .i64 code]) ∧ Below w.heap.size w w' := by
  have HC := Aside0.mk hC
  have Hc := Aside0.mk hc
  have HF := Aside0.mk hF
  clear hC hc hF
  go_enter Try.func9, Try.ntmps9
  go_wp2_with (fail)
  have hi0 : IC w w.heap.size (w.alloc (.cells #[.int .u64 0] 22)) [] (fun k => k = w.heap.size) := by
    exact ⟨Nat.le_refl _, blk_new _ _, fun k => Iff.rfl⟩
  have hcall := rest_calls n c w.heap.size A l w _ (IC w w.heap.size) (IC.told w w.heap.size) _ hi0 (below_alloc (Below.refl _ _) _) HC.out Hc.out
  rw [HF.out] at hcall
  refine hcall.mono ?_
  rintro e w1 ⟨rfl, p1, ⟨_, h1, _⟩, hb1, _⟩
  have HB1 := Aside0.mk hb1
  have hcv := cell_of_one h1
  clear hb1 h1 hi0 hcall
  by_cases hz : code = 0
  · subst hz
    obtain ⟨x, hx⟩ : ∃ x : Int, x = ((bs.length : Nat) : Int) := ⟨_, rfl⟩
    rw [← hx] at hcv
    have HX := Aside0.mk hx
    clear hx
    go_wp2
    go_ret2
    exact ⟨by first | rfl | (rw [HX.out]; rfl) | (rw [← HX.out]; rfl), HB1.out⟩
  · have hzb : (code != 0) = true := by simpa using hz
    have hzc : (code == 0) = false := by simpa using hz
    go_wp2
    go_ret2
    exact ⟨by first | rfl | (rw [if_neg hz]; rfl), HB1.out⟩
end Go.Proofs.Ytkefjoljokfieaa.PCoverRests.Count
namespace Go.Proofs.Ytkefjoljokfieaa.PCoverRests
open Go.RowKit Go.Proofs.YtkefjoljokfieaaW.PrintWords Go.Proofs.YtkefjoljokfieaaW.PrintLast Go.Proofs.YtkefjoljokfieaaW.PrintMore
/-- What cover.Count comes to. -/
def cover_Count.f (a0 : Int) (l1 : List Int) : Option (Int × Int) :=
  if 0 ≤ a0 then some (if (restF a0.toNat l1).1 = 0 then (((restF a0.toNat l1).2.length : Nat) : Int) else 0, (restF a0.toNat l1).1) else none
theorem cover_Count.calls (a0 : Int) (A1 : Option Addr) (c1 : Nat) (l1 : List Int) (r1 : Int) (r2 : Int) (w : World) (hr1 : Kd.C (Kd.int .u64) w A1 l1.length l1) (hc1 : l1.length ≤ c1) (h : cover_Count.f a0 l1 = some (r1, r2)) :
    Calls Try.prog 9 #[.int .u64 a0, .slice A1 l1.length c1] w fun e w' => e = .returned (.tuple #[.int .u64 r1, .int .i64 r2]) ∧ Below w.heap.size w w' := by
  unfold cover_Count.f at h
  by_cases hp : 0 ≤ a0
  · rw [if_pos hp] at h
    obtain ⟨n, rfl⟩ := Int.eq_ofNat_of_zero_le hp
    rw [Int.toNat_natCast] at h
    have h := Option.some.inj h
    have e1 := congrArg Prod.fst h
    have e2 := congrArg Prod.snd h
    simp only [] at e1 e2
    rw [← e1, ← e2]
    exact Count.Count_calls n c1 A1 l1 w _ _ rfl hr1 hc1
  · rw [if_neg hp] at h; cases h
end Go.Proofs.Ytkefjoljokfieaa.PCoverRests
