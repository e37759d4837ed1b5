/- The contract of cover.Range and of the closure within it: what it answers, and that it leaves all that was there as it was. No condition beyond those that each theorem names. -/
import Derived.Test.YtkefjoljokfieaaPCoverRestsx0
import Derived.Test.YtkefjoljokfieaaPCoverRestsx2
import Derived.Test.YtkefjoljokfieaaMP
import Derived.Test.YtkefjoljokfieaaMS
import Derived.OneCell
import Derived.Laws.EntriesVeiled
set_option linter.unusedVariables false
set_option linter.unusedSimpArgs false
namespace Go.Proofs.Ytkefjoljokfieaa.PCoverRests
open Go.RowKit Go.Proofs.YtkefjoljokfieaaW.PrintWords Go.Proofs.YtkefjoljokfieaaW.PrintLast Go.Proofs.YtkefjoljokfieaaW.PrintMore Go.Proofs.Ytkefjoljokfieaa.MB
attribute [local go_sem] max2_int min2_int max_two min_two max_three min_three max_four min_four

structure GI (w : World) (B gl gh gp gg : Nat) (lo hi : Int) (fv v : Value) (xs : List S42) : Prop where
  l : w.heap[gl]? = some (.cells #[.int .u64 lo] 22 (0, 0))
  h : w.heap[gh]? = some (.cells #[.int .u64 hi] 22 (0, 0))
  p : w.heap[gp]? = some (.cells #[v] 26 (0, 0))
  g : w.heap[gg]? = some (.cells #[fv] 45 (0, 0))
  r : Kd.R k42 42 w B (fun _ => True) v xs

theorem GI.below {w w' : World} {B gl gh gp gg : Nat} {lo hi : Int} {fv v : Value} {xs : List S42} (q : GI w B gl gh gp gg lo hi fv v xs) (hb : Below w.heap.size w w') : GI w' B gl gh gp gg lo hi fv v xs :=
  ⟨blk_below q.l hb, blk_below q.h hb, blk_below q.p hb, blk_below q.g hb, Kd.R_below q.r hb⟩

/-- What is kept: all blocks but the one of the variable and the row's own. -/
structure Fr (w w' : World) (g : Nat) (v v' : Value) : Prop where
  size : w.heap.size ≤ w'.heap.size
  keep : ∀ k, k < w.heap.size → k ≠ g → some k ≠ v.ownBlock → w'.heap[k]? = w.heap[k]?
  own : v'.ownBlock = v.ownBlock ∨ ∃ b, v'.ownBlock = some b ∧ w.heap.size ≤ b
theorem Fr.refl (w : World) (g : Nat) (v : Value) : Fr w w g v v := ⟨Nat.le_refl _, fun _ _ _ _ => rfl, .inl rfl⟩
theorem Fr.trans {w w1 w2 : World} {g : Nat} {v v1 v2 : Value} (a : Fr w w1 g v v1) (b : Fr w1 w2 g v1 v2) : Fr w w2 g v v2 := by
  refine ⟨Nat.le_trans a.size b.size, fun k hk hg hv => ?_, ?_⟩
  · rw [b.keep k (Nat.lt_of_lt_of_le hk a.size) hg ?_, a.keep k hk hg hv]
    rcases a.own with h | ⟨c, h, hc⟩
    · rw [h]; exact hv
    · rw [h]; intro e; cases e; omega
  · rcases b.own with h | ⟨c, h, hc⟩
    · rcases a.own with h1 | ⟨d, h1, hd⟩
      · exact .inl (h.trans h1)
      · exact .inr ⟨d, h.trans h1, hd⟩
    · exact .inr ⟨c, h, Nat.le_trans a.size hc⟩
theorem Fr.below {w w' : World} (g : Nat) (v : Value) (h : Below w.heap.size w w') : Fr w w' g v v := ⟨h.size, fun k hk _ _ => h.block k hk, .inl rfl⟩

theorem GI.appended {w w2 : World} {B gl gh gp gg : Nat} {lo hi : Int} {fv v v2 : Value} {xs ys : List S42} (q : GI w B gl gh gp gg lo hi fv v xs) (hg : w.grownBy w2 v.ownBlock) (ho : Kd.R k42 42 w2 B (fun _ => True) v2 ys) (hat : v2.ownBlock = v.ownBlock ∨ ∃ b, v2.ownBlock = some b ∧ w.heap.size ≤ b) :
    GI (w2.setCell ⟨gp, 0, none⟩ v2) B gl gh gp gg lo hi fv v2 ys ∧ Fr w (w2.setCell ⟨gp, 0, none⟩ v2) gp v v2 := by
  have n1 : gl ≠ gp := blk_ne q.l q.p (by decide)
  have n2 : gh ≠ gp := blk_ne q.h q.p (by decide)
  have n3 : gg ≠ gp := blk_ne q.g q.p (by decide)
  have o1 := Kd.R_ne q.r q.l (by decide)
  have o2 := Kd.R_ne q.r q.h (by decide)
  have o3 := Kd.R_ne q.r q.p (by decide)
  have o4 := Kd.R_ne q.r q.g (by decide)
  have hp2 := blk_grown q.p hg o3
  refine ⟨⟨blk_far (blk_grown q.l hg o1) n1 _, blk_far (blk_grown q.h hg o2) n2 _, one_setCell hp2, blk_far (blk_grown q.g hg o4) n3 _, Kd.R_set ho hp2 (by intro x hx; simp [k42, Kd.iso, Kd.pair, Kd.int, Kd.scalar] at hx; omega) 0 _⟩, ?_, ?_, hat⟩
  · have := hg.size; simpa using this
  · intro k hk hgk hv
    rw [Below.heap_setCell _ _ _ _ hgk]
    exact hg.block k hk hv

/-- The closure's post. -/
def Gp (w0 w : World) (gl gh gp gg : Nat) (lo hi : Int) (fv v : Value) (ys : List S42) (e : Ending) (w' : World) : Prop :=
  e = .returned (.tuple #[]) ∧ ∃ v', GI w' w0.heap.size gl gh gp gg lo hi fv v' ys ∧ Below w0.heap.size w0 w' ∧ Fr w w' gp v v'

set_option maxHeartbeats 1000000 in
set_option maxRecDepth 100000 in
theorem gather_none (w0 w : World) (gl gh gp gg : Nat) (lo hi b k r1 r2 : Int) (fv v : Value) (xs : List S42)
    (q : GI w w0.heap.size gl gh gp gg lo hi fv v xs) (hb : Below w0.heap.size w0 w) (hi1 : cover_items.f b k = some (r1, r2)) (hle : decide (r2 ≤ lo) = true ∨ decide (r2 ≤ lo) = false ∧ decide (hi ≤ r1) = true) :
    Calls Try.prog 25 #[.agg #[.int .i64 b, .int .u64 k], .pointer (some ⟨gl, 0, none⟩), .pointer (some ⟨gh, 0, none⟩), .pointer (some ⟨gp, 0, none⟩), .pointer (some ⟨gg, 0, none⟩)] w
      (Gp w0 w gl gh gp gg lo hi fv v xs) := by
  have HA := Aside0.mk hi1
  clear hi1
  have HQ := Aside0.mk q
  have HB := Aside0.mk hb
  clear q hb
  rcases hle with hle | ⟨hle, hle2⟩
  all_goals
    go_enter Try.func25, Try.ntmps25
    go_wp2_with (fail)
    refine (cover_items.calls b k r1 r2 _ HA.out).mono ?_
    rintro e w1 ⟨rfl, hb1⟩
    have hbb : Below w.heap.size w w1 := by
      refine below_step (below_alloc (Below.refl _ _) _) hb1
    have hql := cell_of_one (blk_below HQ.out.l hbb)
    have hqh := cell_of_one (blk_below HQ.out.h hbb)
    have HBB := Aside0.mk hbb
    clear hbb hb1
    go_wp2
    go_end0
    exact ⟨rfl, v, HQ.out.below HBB.out, below_weaken HB.out HB.out.size HBB.out, Fr.below _ _ HBB.out⟩

set_option maxHeartbeats 1000000 in
set_option maxRecDepth 100000 in
theorem gather_all (w0 w : World) (gl gh gp gg : Nat) (lo hi b k r1 r2 : Int) (fv v : Value) (xs : List S42) (hgp : w0.heap.size ≤ gp)
    (q : GI w w0.heap.size gl gh gp gg lo hi fv v xs) (hb : Below w0.heap.size w0 w) (hi1 : cover_items.f b k = some (r1, r2)) (h1 : decide (r2 ≤ lo) = false) (h2 : decide (hi ≤ r1) = false) (h3 : decide (lo ≤ r1) = true) (h4 : decide (r2 ≤ hi) = true) (hlen : xs.length < 8796093022208) :
    Calls Try.prog 25 #[.agg #[.int .i64 b, .int .u64 k], .pointer (some ⟨gl, 0, none⟩), .pointer (some ⟨gh, 0, none⟩), .pointer (some ⟨gp, 0, none⟩), .pointer (some ⟨gg, 0, none⟩)] w
      (Gp w0 w gl gh gp gg lo hi fv v (xs ++ [⟨b, k⟩])) := by
  have HA := Aside0.mk hi1
  clear hi1
  have HQ := Aside0.mk q
  have HB := Aside0.mk hb
  have HL := Aside0.mk hlen
  have HP := Aside0.mk hgp
  clear q hb hlen hgp
  go_enter Try.func25, Try.ntmps25
  go_wp2_with (fail)
  refine (cover_items.calls b k r1 r2 _ HA.out).mono ?_
  rintro e w1 ⟨rfl, hb1⟩
  have hbb : Below w.heap.size w w1 := by
    refine below_step (below_alloc (Below.refl _ _) _) hb1
  have hbox : w1.heap[w.heap.size]? = some (.cells #[.int .i64 b, .int .u64 k] 42 (0, 0)) := blk_below (blk_new _ _) hb1
  have hc0 : w1.cell? ⟨w.heap.size, 0, none⟩ = some (.int .i64 b) := (blk_cell hbox 0).trans rfl
  have hc1 : w1.cell? ⟨w.heap.size, 1, none⟩ = some (.int .u64 k) := (blk_cell hbox 1).trans rfl
  have hql := cell_of_one (blk_below HQ.out.l hbb)
  have hqh := cell_of_one (blk_below HQ.out.h hbb)
  have hqp := cell_of_one (blk_below HQ.out.p hbb)
  have hfp := free_of_one (blk_below HQ.out.p hbb)
  have HBB := Aside0.mk hbb
  have HB1 := Aside0.mk (below_weaken HB.out HB.out.size hbb)
  have HQ1 := Aside0.mk (HQ.out.below hbb)
  clear hbb hb1 hbox
  go_wp2_with (first | ((with_reducible refine gate_builtin (b := .append) (xs := #[.tmp 44, .tmp 46]) rfl ?_); at_builtin; refine Kd.R_append k42 (w0 := w0) w0.heap.size rfl (.tmp 44) (.tmp 46) 26 42 (.agg #[(.int .i64 0), (.int .u64 0)]) 16 rfl Try.underlying26 info42 rfl (by decide) (by omega) v xs (⟨b, k⟩ : S42) [.int .i64 b, .int .u64 k] (fun _ => True) (fun _ => False) rfl rfl ?aP (fun _ hk => hk.elim) ?aF ?aO ?aB ?aS ?aL ?_; (case aP => exact k42_mkM _ _ _ (⟨b, k⟩ : S42)); (case aB => exact HB1.out); (case aF => exact (fun _ _ => trivial)); (case aO => exact HQ1.out.r); (case aS => exact HB1.out.size); (case aL => have := HL.out; omega); intro v2 w2 ho hb2 hg hat; obtain ⟨A2, c2, hs2⟩ := Kd.R_slice ho; obtain ⟨n2, hn2⟩ : ∃ n_ : Nat, n_ = (xs ++ [(⟨b, k⟩ : S42)]).length := ⟨_, rfl⟩; rw [← hn2] at hs2; clear hn2; subst hs2; have HO := Aside0.mk ho; have HB2 := Aside0.mk hb2; have HG := Aside0.mk hg; have HAT := Aside0.mk hat; clear ho hb2 hg hat; have hfp2 := free_of_one (blk_grown HQ1.out.p HG.out (Kd.R_ne HQ1.out.r HQ1.out.p (by decide))); have hcp2 := cell_of_one (blk_grown HQ1.out.p HG.out (Kd.R_ne HQ1.out.r HQ1.out.p (by decide)))))
  go_end0
  obtain ⟨G1, G2⟩ := HQ1.out.appended HG.out HO.out HAT.out
  exact ⟨rfl, _, G1, HB2.out.setCell HP.out _, (Fr.below gp v HBB.out).trans G2⟩


/-- The closure, as it lies in its own variable. -/
def fvOf (gl gh gp gg : Nat) : Value := .func (.func 25) #[] #[.pointer (some ⟨gl, 0, none⟩), .pointer (some ⟨gh, 0, none⟩), .pointer (some ⟨gp, 0, none⟩), .pointer (some ⟨gg, 0, none⟩)]

set_option maxHeartbeats 1000000 in
set_option maxRecDepth 100000 in
theorem gather_rec (w0 w : World) (gl gh gp gg : Nat) (lo hi b k r1 r2 l1 l2 m1 m2 : Int) (v : Value) (xs : List S42)
    (q : GI w w0.heap.size gl gh gp gg lo hi (fvOf gl gh gp gg) v xs) (hb : Below w0.heap.size w0 w) (hi1 : cover_items.f b k = some (r1, r2)) (hh : cover_halves.f b k = some (l1, l2, m1, m2)) (h1 : decide (r2 ≤ lo) = false) (h2 : decide (hi ≤ r1) = false) (h3 : decide (lo ≤ r1) = false ∨ decide (lo ≤ r1) = true ∧ decide (r2 ≤ hi) = false) (ys zs : List S42)
    (ihL : ∀ (w : World) (v : Value), GI w w0.heap.size gl gh gp gg lo hi (fvOf gl gh gp gg) v xs → Below w0.heap.size w0 w → Calls Try.prog 25 #[.agg #[.int .i64 l1, .int .u64 l2], .pointer (some ⟨gl, 0, none⟩), .pointer (some ⟨gh, 0, none⟩), .pointer (some ⟨gp, 0, none⟩), .pointer (some ⟨gg, 0, none⟩)] w (Gp w0 w gl gh gp gg lo hi (fvOf gl gh gp gg) v ys))
    (ihR : ∀ (w : World) (v : Value), GI w w0.heap.size gl gh gp gg lo hi (fvOf gl gh gp gg) v ys → Below w0.heap.size w0 w → Calls Try.prog 25 #[.agg #[.int .i64 m1, .int .u64 m2], .pointer (some ⟨gl, 0, none⟩), .pointer (some ⟨gh, 0, none⟩), .pointer (some ⟨gp, 0, none⟩), .pointer (some ⟨gg, 0, none⟩)] w (Gp w0 w gl gh gp gg lo hi (fvOf gl gh gp gg) v zs)) :
    Calls Try.prog 25 #[.agg #[.int .i64 b, .int .u64 k], .pointer (some ⟨gl, 0, none⟩), .pointer (some ⟨gh, 0, none⟩), .pointer (some ⟨gp, 0, none⟩), .pointer (some ⟨gg, 0, none⟩)] w
      (Gp w0 w gl gh gp gg lo hi (fvOf gl gh gp gg) v zs) := by
  have HA := Aside0.mk hi1
  have HH := Aside0.mk hh
  clear hi1 hh
  have HQ := Aside0.mk q
  have HB := Aside0.mk hb
  have IL := Aside0.mk ihL
  have IR := Aside0.mk ihR
  clear q hb ihL ihR
  rcases h3 with h3 | ⟨h3, h4⟩
  all_goals
    go_enter Try.func25, Try.ntmps25
    go_wp2_with (fail)
    refine (cover_items.calls b k r1 r2 _ HA.out).mono ?_
    rintro e w1 ⟨rfl, hb1⟩
    have hbb : Below w.heap.size w w1 := by
      refine below_step (below_alloc (Below.refl _ _) _) hb1
    have hbox : w1.heap[w.heap.size]? = some (.cells #[.int .i64 b, .int .u64 k] 42 (0, 0)) := blk_below (blk_new _ _) hb1
    have hc0 : w1.cell? ⟨w.heap.size, 0, none⟩ = some (.int .i64 b) := (blk_cell hbox 0).trans rfl
    have hc1 : w1.cell? ⟨w.heap.size, 1, none⟩ = some (.int .u64 k) := (blk_cell hbox 1).trans rfl
    have hql := cell_of_one (blk_below HQ.out.l hbb)
    have hqh := cell_of_one (blk_below HQ.out.h hbb)
    have HBB := Aside0.mk hbb
    have HB1 := Aside0.mk (below_weaken HB.out HB.out.size hbb)
    have HQ1 := Aside0.mk (HQ.out.below hbb)
    clear hbb hb1 hbox
    go_wp2_with (fail)
    refine (cover_halves.calls b k l1 l2 m1 m2 _ HH.out).mono ?_
    rintro e w2 ⟨rfl, hb2⟩
    have HQ2 := Aside0.mk (HQ1.out.below hb2)
    have hb3 : Below w1.heap.size w1 ((w2.alloc (.cells #[.int .i64 l1, .int .u64 l2] 42)).alloc (.cells #[.int .i64 m1, .int .u64 m2] 42)) := below_alloc (below_alloc hb2 _) _
    have HQ3 := Aside0.mk (HQ1.out.below hb3)
    have HB3 := Aside0.mk (below_weaken HB1.out HB1.out.size hb3)
    have HF3 := Aside0.mk ((Fr.below gp v HBB.out).trans (Fr.below gp v hb3))
    have hqg : ((w2.alloc (.cells #[.int .i64 l1, .int .u64 l2] 42)).alloc (.cells #[.int .i64 m1, .int .u64 m2] 42)).cell? ⟨gg, 0, none⟩ = some (.func (.func 25) #[] #[.pointer (some ⟨gl, 0, none⟩), .pointer (some ⟨gh, 0, none⟩), .pointer (some ⟨gp, 0, none⟩), .pointer (some ⟨gg, 0, none⟩)]) := cell_of_one HQ3.out.g
    clear hql hqh hc0 hc1 hb2 hb3
    go_wp2_with (fail)
    refine (IL.out _ v HQ3.out HB3.out).mono ?_
    rintro e w4 ⟨rfl, v1, hq4, hb4, hf4⟩
    have hbox4 : w4.heap[w2.heap.size + 1]? = some (.cells #[.int .i64 m1, .int .u64 m2] 42 (0, 0)) := by
      have hlt : w2.heap.size + 1 < ((w2.alloc (.cells #[.int .i64 l1, .int .u64 l2] 42)).alloc (.cells #[.int .i64 m1, .int .u64 m2] 42)).heap.size := by simp
      have hn : some (w2.heap.size + 1) ≠ v.ownBlock := fun e => by have := Kd.R_lt HQ2.out.r _ e.symm; omega
      have hg : w2.heap.size + 1 ≠ gp := fun e => by have := blk_lt HQ2.out.p; omega
      rw [hf4.keep _ hlt hg hn]
      have := blk_new (w2.alloc (.cells #[.int .i64 l1, .int .u64 l2] 42)) (.cells #[.int .i64 m1, .int .u64 m2] 42)
      simpa using this
    have hd0 : w4.cell? ⟨w2.heap.size + 1, 0, none⟩ = some (.int .i64 m1) := (blk_cell hbox4 0).trans rfl
    have hd1 : w4.cell? ⟨w2.heap.size + 1, 1, none⟩ = some (.int .u64 m2) := (blk_cell hbox4 1).trans rfl
    have hqg4 : w4.cell? ⟨gg, 0, none⟩ = some (.func (.func 25) #[] #[.pointer (some ⟨gl, 0, none⟩), .pointer (some ⟨gh, 0, none⟩), .pointer (some ⟨gp, 0, none⟩), .pointer (some ⟨gg, 0, none⟩)]) := cell_of_one hq4.g
    have HQ4 := Aside0.mk hq4
    have HB4 := Aside0.mk hb4
    have HF4 := Aside0.mk (HF3.out.trans hf4)
    clear hqg hq4 hb4 hf4 hbox4
    go_wp2_with (fail)
    refine (IR.out _ v1 HQ4.out HB4.out).mono ?_
    rintro e w5 ⟨rfl, v2, hq5, hb5, hf5⟩
    have HQ5 := Aside0.mk hq5
    have HB5 := Aside0.mk hb5
    have HF5 := Aside0.mk (HF4.out.trans hf5)
    clear hqg4 hd0 hd1 hq5 hb5 hf5
    go_wp2
    go_end0
    exact ⟨rfl, v2, HQ5.out, HB5.out, HF5.out⟩

/-- The largest blocks of a block that lie in lo to hi - 1. -/
def gath (lo hi : Nat) : Nat → Nat → List (Nat × Nat)
  | 0, k => if (k + 1) * 2 ^ 0 ≤ lo ∨ hi ≤ k * 2 ^ 0 then [] else if lo ≤ k * 2 ^ 0 ∧ (k + 1) * 2 ^ 0 ≤ hi then [(0, k)] else []
  | h + 1, k => if (k + 1) * 2 ^ (h + 1) ≤ lo ∨ hi ≤ k * 2 ^ (h + 1) then [] else if lo ≤ k * 2 ^ (h + 1) ∧ (k + 1) * 2 ^ (h + 1) ≤ hi then [(h + 1, k)] else gath lo hi h (2 * k) ++ gath lo hi h (2 * k + 1)
theorem gath_none (lo hi h k : Nat) (e : (k + 1) * 2 ^ h ≤ lo ∨ hi ≤ k * 2 ^ h) : gath lo hi h k = [] := by
  cases h <;> rw [gath, if_pos e]
theorem gath_all (lo hi h k : Nat) (e : ¬ ((k + 1) * 2 ^ h ≤ lo ∨ hi ≤ k * 2 ^ h)) (e2 : lo ≤ k * 2 ^ h ∧ (k + 1) * 2 ^ h ≤ hi) : gath lo hi h k = [(h, k)] := by
  cases h <;> rw [gath, if_neg e, if_pos e2]
theorem gath_half (lo hi h k : Nat) (e : ¬ ((k + 1) * 2 ^ (h + 1) ≤ lo ∨ hi ≤ k * 2 ^ (h + 1))) (e2 : ¬ (lo ≤ k * 2 ^ (h + 1) ∧ (k + 1) * 2 ^ (h + 1) ≤ hi)) : gath lo hi (h + 1) k = gath lo hi h (2 * k) ++ gath lo hi h (2 * k + 1) := by
  rw [gath, if_neg e, if_neg e2]
theorem gath_le (lo hi : Nat) : ∀ h k, (gath lo hi h k).length ≤ 2 ^ h
  | 0, k => by rw [gath]; split; · simp
               split <;> simp
  | h + 1, k => by
    rw [gath]
    have hp := two_pow_pos h
    have e : 2 ^ (h + 1) = 2 * 2 ^ h := by rw [Nat.pow_succ, Nat.mul_comm]
    split
    · simp
    · split
      · simp; omega
      · have h1 := gath_le lo hi h (2 * k)
        have h2 := gath_le lo hi h (2 * k + 1)
        rw [List.length_append]; omega
/-- Blocks, as the printed record. -/
def blks (l : List (Nat × Nat)) : List S42 := l.map fun b => ⟨(b.1 : Int), (b.2 : Int)⟩
theorem blks_append (a b : List (Nat × Nat)) : blks (a ++ b) = blks a ++ blks b := List.map_append ..
theorem blks_length (a : List (Nat × Nat)) : (blks a).length = a.length := List.length_map ..
theorem cover_items.is (h k : Nat) (m : May h k) : cover_items.f h k = some (((k * 2 ^ h : Nat) : Int), (((k + 1) * 2 ^ h : Nat) : Int)) := by
  unfold cover_items.f
  have hk := m.lt
  have h2 := m.2
  have h1 := m.1
  have hp := two_pow_pos h
  have hm : (k + 1) * 2 ^ h = k * 2 ^ h + 2 ^ h := by rw [Nat.add_mul, Nat.one_mul]
  have e : IntKind.u64.wrap ((k : Int) + 1) = ((k + 1 : Nat) : Int) := by rw [wrap_u64_in _ (by omega) (by omega)]; omega
  rw [if_pos (by omega), shlc k h (by omega) (by omega), e, shlc (k + 1) h (by omega) (by omega)]
theorem cover_halves.is (h k : Nat) (m : May (h + 1) k) : cover_halves.f ((h + 1 : Nat) : Int) k = some ((h : Int), ((2 * k : Nat) : Int), (h : Int), ((2 * k + 1 : Nat) : Int)) := by
  unfold cover_halves.f
  have hk := m.lt
  have h1 := m.1
  have e1 : wrap64 (((h + 1 : Nat) : Int) - 1) = (h : Int) := by rw [wrap64_in _ (by omega) (by omega)]; omega
  have e2 : IntKind.u64.wrap (2 * (k : Int)) = ((2 * k : Nat) : Int) := by rw [wrap_u64_in _ (by omega) (by omega)]; omega
  have e3 : IntKind.u64.wrap (((2 * k : Nat) : Int) + 1) = ((2 * k + 1 : Nat) : Int) := by rw [wrap_u64_in _ (by omega) (by omega)]; omega
  rw [e1, e2, e3]
theorem gather_calls (w0 : World) (gl gh gp gg lo hi : Nat) (hgp : w0.heap.size ≤ gp) : ∀ (h k : Nat), May h k → ∀ (w : World) (v : Value) (xs : List S42), GI w w0.heap.size gl gh gp gg lo hi (fvOf gl gh gp gg) v xs → Below w0.heap.size w0 w → xs.length + 2 ^ h ≤ 4398046511104 →
    Calls Try.prog 25 #[.agg #[.int .i64 h, .int .u64 k], .pointer (some ⟨gl, 0, none⟩), .pointer (some ⟨gh, 0, none⟩), .pointer (some ⟨gp, 0, none⟩), .pointer (some ⟨gg, 0, none⟩)] w
      (Gp w0 w gl gh gp gg lo hi (fvOf gl gh gp gg) v (xs ++ blks (gath lo hi h k))) := by
  intro h
  induction h with
  | zero =>
    intro k m w v xs q hb hl
    have hit := cover_items.is 0 k m
    have hp := two_pow_pos 0
    have hm : (k + 1) * 2 ^ 0 = k * 2 ^ 0 + 2 ^ 0 := by rw [Nat.add_mul, Nat.one_mul]
    by_cases e1 : (k + 1) * 2 ^ 0 ≤ lo
    · rw [gath_none lo hi 0 k (.inl e1)]
      rw [show blks [] = [] from rfl, List.append_nil]
      exact gather_none w0 w gl gh gp gg lo hi _ _ _ _ _ v xs q hb hit (.inl (decide_eq_true (by omega)))
    · by_cases e2 : hi ≤ k * 2 ^ 0
      · rw [gath_none lo hi 0 k (.inr e2)]
        rw [show blks [] = [] from rfl, List.append_nil]
        exact gather_none w0 w gl gh gp gg lo hi _ _ _ _ _ v xs q hb hit (.inr ⟨decide_eq_false (by omega), decide_eq_true (by omega)⟩)
      · rw [gath_all lo hi 0 k (by omega) (by omega)]
        exact gather_all w0 w gl gh gp gg lo hi _ _ _ _ _ v xs hgp q hb hit (decide_eq_false (by omega)) (decide_eq_false (by omega)) (decide_eq_true (by omega)) (decide_eq_true (by omega)) (by omega)
  | succ h ih =>
    intro k m w v xs q hb hl
    have hit := cover_items.is (h + 1) k m
    have hhv := cover_halves.is h k m
    have hp := two_pow_pos h
    have ep : 2 ^ (h + 1) = 2 * 2 ^ h := by rw [Nat.pow_succ, Nat.mul_comm]
    by_cases e1 : (k + 1) * 2 ^ (h + 1) ≤ lo
    · rw [gath_none lo hi (h + 1) k (.inl e1)]
      rw [show blks [] = [] from rfl, List.append_nil]
      exact gather_none w0 w gl gh gp gg lo hi _ _ _ _ _ v xs q hb hit (.inl (decide_eq_true (by omega)))
    · by_cases e2 : hi ≤ k * 2 ^ (h + 1)
      · rw [gath_none lo hi (h + 1) k (.inr e2)]
        rw [show blks [] = [] from rfl, List.append_nil]
        exact gather_none w0 w gl gh gp gg lo hi _ _ _ _ _ v xs q hb hit (.inr ⟨decide_eq_false (by omega), decide_eq_true (by omega)⟩)
      · have n1 : ¬ ((k + 1) * 2 ^ (h + 1) ≤ lo ∨ hi ≤ k * 2 ^ (h + 1)) := by omega
        by_cases e3 : lo ≤ k * 2 ^ (h + 1) ∧ (k + 1) * 2 ^ (h + 1) ≤ hi
        · rw [gath_all lo hi (h + 1) k n1 e3]
          exact gather_all w0 w gl gh gp gg lo hi _ _ _ _ _ v xs hgp q hb hit (decide_eq_false (by omega)) (decide_eq_false (by omega)) (decide_eq_true (by omega)) (decide_eq_true (by omega)) (by omega)
        · rw [gath_half lo hi h k n1 e3, blks_append, ← List.append_assoc]
          have hll := gath_le lo hi h (2 * k)
          refine gather_rec w0 w gl gh gp gg lo hi _ _ _ _ _ _ _ _ v xs q hb hit hhv (decide_eq_false (by omega)) (decide_eq_false (by omega)) ?_ (xs ++ blks (gath lo hi h (2 * k))) _ (fun w v q hb => ih (2 * k) m.left w v xs q hb (by omega)) (fun w v q hb => ih (2 * k + 1) m.right w v _ q hb (by rw [List.length_append, blks_length]; omega))
          by_cases e4 : lo ≤ k * 2 ^ (h + 1)
          · exact .inr ⟨decide_eq_true (by omega), decide_eq_false (by omega)⟩
          · exact .inl (decide_eq_false (by omega))
/-- The blocks of a list of mountains. -/
def gathAll (lo hi : Nat) (l : List (Nat × Nat)) : List (Nat × Nat) := l.flatMap fun b => gath lo hi b.1 b.2
theorem gathAll_snoc (lo hi : Nat) (l : List (Nat × Nat)) (b : Nat × Nat) : gathAll lo hi (l ++ [b]) = gathAll lo hi l ++ gath lo hi b.1 b.2 := by
  unfold gathAll; rw [List.flatMap_append]; simp
theorem blks_get (l : List (Nat × Nat)) (i : Nat) (h : i < l.length) : rd_T42 (blks l) (i : Int) = ⟨(l[i].1 : Int), (l[i].2 : Int)⟩ := by
  unfold rd_T42 blks
  rw [Int.toNat_natCast, List.getD_eq_getElem?_getD, List.getElem?_map, List.getElem?_eq_getElem h]
  rfl

set_option maxHeartbeats 2000000 in
set_option maxRecDepth 100000 in
theorem range_walk (K lo hi n : Nat) (ms : List (Nat × Nat)) (w : World) (hK : cover_Mountains.f K n = some (blks ms, 0)) (hm : ∀ b ∈ ms, May b.1 b.2) (hl : ms.length ≤ 64)
    (hs : ∀ i, i ≤ ms.length → (gathAll lo hi (ms.take i)).length + 1099511627776 ≤ 4398046511104)
    (h1 : decide (n < hi) = false) (h2 : decide (hi < lo) = false) :
    Calls Try.prog 17 #[.int .u64 lo, .int .u64 hi, .int .u64 n] w fun e w' => ∃ v0_ : Value, e = .returned (.tuple #[v0_, .int .i64 0]) ∧ Kd.R k42 42 w' w.heap.size (fun _ => True) v0_ (blks (gathAll lo hi ms)) ∧ Below w.heap.size w w' := by
  have HK := Aside0.mk hK
  have HM := Aside0.mk hm
  have HL := Aside0.mk hl
  have HS := Aside0.mk hs
  clear hK hm hl hs
  go_enter Try.func17, Try.ntmps17
  go_wp2_with (fail)
  refine (cover_Mountains.calls K n (blks ms) 0 _ HK.out).mono ?_
  rintro e w1 ⟨vm, rfl, hr, hb1⟩
  obtain ⟨A, c, hvm, hc, hC⟩ := Kd.R_reads hr
  subst hvm
  have HLb := Aside0.mk (blks_length ms)
  have HB1 := Aside0.mk (below_weaken (below_alloc (below_alloc (Below.refl w.heap.size w) (.cells #[.int .u64 lo] 22)) (.cells #[.int .u64 hi] 22)) (by simp; omega) hb1)
  have hwl : w1.heap[w.heap.size]? = some (.cells #[.int .u64 lo] 22 (0, 0)) := blk_below (blk_alloc (blk_new w (.cells #[.int .u64 lo] 22)) (.cells #[.int .u64 hi] 22)) hb1
  have hwh : w1.heap[w.heap.size + 1]? = some (.cells #[.int .u64 hi] 22 (0, 0)) := by
    have := blk_below (blk_new (w.alloc (.cells #[.int .u64 lo] 22)) (.cells #[.int .u64 hi] 22)) hb1
    simpa using this
  have HR := Aside0.mk hr
  have HC := Aside0.mk hC
  have HW := Aside0.mk (And.intro hwl hwh)
  have hcl := cell_of_one hwl
  have hch := cell_of_one hwh
  clear hr hb1 hwl hwh hC hc
  go_wp2
  have HG0 : GI ((w1.alloc (.cells #[.slice none 0 0] 26)).alloc (.cells #[fvOf w.heap.size (w.heap.size + 1) w1.heap.size (w1.heap.size + 1)] 45)) w.heap.size w.heap.size (w.heap.size + 1) w1.heap.size (w1.heap.size + 1) lo hi (fvOf w.heap.size (w.heap.size + 1) w1.heap.size (w1.heap.size + 1)) (.slice none 0 0) [] := by
    refine ⟨blk_alloc (blk_alloc HW.out.1 _) _, blk_alloc (blk_alloc HW.out.2 _) _, blk_alloc (blk_new _ _) _, ?_, Kd.R_nil _ _ _ _ _⟩
    have := blk_new (w1.alloc (.cells #[.slice none 0 0] 26)) (.cells #[fvOf w.heap.size (w.heap.size + 1) w1.heap.size (w1.heap.size + 1)] 45)
    simpa using this
  have HG := Aside0.mk HG0
  have HR1 := Aside0.mk (Kd.R_alloc (Kd.R_alloc HR.out (.cells #[.slice none 0 0] 26)) (.cells #[fvOf w.heap.size (w.heap.size + 1) w1.heap.size (w1.heap.size + 1)] 45))
  have HB2 := Aside0.mk (below_alloc (below_alloc HB1.out (.cells #[.slice none 0 0] 26)) (.cells #[fvOf w.heap.size (w.heap.size + 1) w1.heap.size (w1.heap.size + 1)] 45))
  clear HG0 hcl hch h1 h2
  obtain ⟨wS, hwS⟩ : ∃ wS : World, wS = (w1.alloc (.cells #[.slice none 0 0] 26)).alloc (.cells #[fvOf w.heap.size (w.heap.size + 1) w1.heap.size (w1.heap.size + 1)] 45) := ⟨_, rfl⟩
  rw [← hwS] at HG HR1 HB2
  have HWS := Aside0.mk hwS
  clear hwS
  go_loopg [34] ms.length (fun kq v34 w' => ∃ (i : Nat) (v : Value), v34 = .int .i64 i ∧ Aside0 (i + kq = ms.length) ∧ Aside0 (GI w' w.heap.size w.heap.size (w.heap.size + 1) w1.heap.size (w1.heap.size + 1) lo hi (fvOf w.heap.size (w.heap.size + 1) w1.heap.size (w1.heap.size + 1)) v (blks (gathAll lo hi (ms.take i)))) ∧ Aside0 (Fr wS w' w1.heap.size (.slice none 0 0) v) ∧ Aside0 (Below w.heap.size w w'))
  case atStart => exact ⟨0, .slice none 0 0, (by first | rfl | (simp; done)), ⟨by omega⟩, ⟨by have h := HG.out; rw [HWS.out] at h; exact h⟩, ⟨by rw [HWS.out]; exact Fr.refl _ _ _⟩, ⟨by have h := HB2.out; rw [HWS.out] at h; exact h⟩⟩
  case round =>
    obtain ⟨i, v, rfl, HI, HGr, HFr, HBr⟩ := hrel
    have hnil : ∀ k, some k ≠ (Value.slice none 0 0).ownBlock := fun k => by simp [Value.ownBlock]
    have hgpS : wS.heap[w1.heap.size]? = some (.cells #[.slice none 0 0] 26 (0, 0)) := HG.out.p
    have HRr := Aside0.mk (Kd.R_step (Kd.R_types HR1.out hgpS (by intro x hx; simp [k42, Kd.iso, Kd.pair, Kd.int, Kd.scalar] at hx; omega)) (fun k hk hlt => HFr.out.keep k hlt hk.2 (hnil k)))
    clear hnil hgpS
    cases gk with
    | zero =>
      have hin := HI.out
      have hlt : decide (i < (blks ms).length) = false := decide_eq_false (by have := HLb.out; omega)
      have e : ms.take i = ms := List.take_of_length_le (by omega)
      rw [e] at HGr
      clear hin e
      have hcp := cell_of_one HGr.out.p
      obtain ⟨A2, c2, hv2⟩ := Kd.R_slice HGr.out.r
      obtain ⟨n2, hn2⟩ : ∃ n_ : Nat, n_ = (blks (gathAll lo hi ms)).length := ⟨_, rfl⟩
      rw [← hn2] at hv2
      clear hn2
      subst hv2
      go_wp2
      go_ret2
      exact ⟨_, rfl, HGr.out.r, HBr.out⟩
    | succ k1 =>
      have hil : i < ms.length := by have := HI.out; omega
      have hlt : decide (i < (blks ms).length) = true := decide_eq_true (by have := HLb.out; omega)
      obtain ⟨A3, c3, hv3, hc3, hC3⟩ := Kd.R_reads HRr.out
      cases hv3
      obtain ⟨ad, ea, hx0, hx1⟩ := at_T42 hC3 (i : Int) (by omega) (by have := HLb.out; omega)
      subst ea
      rw [blks_get ms i hil, Int.toNat_natCast] at hx0 hx1
      obtain ⟨bh, hbh⟩ : ∃ x : Nat, x = ms[i].1 := ⟨_, rfl⟩
      obtain ⟨bk, hbk⟩ : ∃ x : Nat, x = ms[i].2 := ⟨_, rfl⟩
      have HMM := Aside0.mk (HM.out _ (List.getElem_mem hil))
      rw [← hbh, ← hbk] at HMM
      have HX := Aside0.mk (And.intro hbh hbk)
      have hx0' : wr.cell? (ad.add (i * 2)) = some (.int .i64 (bh : Int)) := by rw [hx0, hbh]
      have hx1' : wr.cell? ⟨(ad.add (i * 2)).block, (ad.add (i * 2)).off + 1, none⟩ = some (.int .u64 (bk : Int)) := by rw [hx1, hbk]
      have hcg : (wr.alloc (.cells #[.int .i64 (bh : Int), .int .u64 (bk : Int)] 42)).cell? ⟨w1.heap.size + 1, 0, none⟩ = some (.func (.func 25) #[] #[.pointer (some ⟨w.heap.size, 0, none⟩), .pointer (some ⟨w.heap.size + 1, 0, none⟩), .pointer (some ⟨w1.heap.size, 0, none⟩), .pointer (some ⟨w1.heap.size + 1, 0, none⟩)]) := cell_of_one (blk_alloc HGr.out.g _)
      have HCC := Aside0.mk hC3
      have HIL := Aside0.mk hil
      clear hx0 hx1 hbh hbk hc3 hC3
      have hqn : i < (blks ms).length := by have := HLb.out; omega
      have hib : (i : Int) < 64 := by have := HL.out; omega
      go_wp2_with (fail)
      have hgw : w.heap.size ≤ w1.heap.size := HB1.out.size
      have hbound : (blks (gathAll lo hi (ms.take i))).length + 2 ^ bh ≤ 4398046511104 := by
        have h1 := HS.out i (by omega)
        have h2 := HMM.out.pow
        rw [blks_length]; omega
      refine (gather_calls w w.heap.size (w.heap.size + 1) w1.heap.size (w1.heap.size + 1) lo hi hgw bh bk HMM.out _ v _ (HGr.out.below (below_alloc (Below.refl _ _) _)) (below_alloc HBr.out _) hbound).mono ?_
      rintro e w4 ⟨rfl, v4, hq4, hb4, hf4⟩
      have HQ4 := Aside0.mk hq4
      have HB4 := Aside0.mk hb4
      have HF4 := Aside0.mk ((HFr.out.trans (Fr.below _ v (below_alloc (Below.refl _ _) _))).trans hf4)
      clear hq4 hb4 hf4 hbound hgw hcg hx0' hx1'
      go_wp2
      go_roundg k1
      case measure => omega
      case rel =>
        refine ⟨i + 1, v4, (by first | rfl | (simp; done)), ⟨by have := HI.out; omega⟩, ⟨?_⟩, HF4, HB4⟩
        rw [List.take_succ_eq_append_getElem hil, gathAll_snoc, blks_append, ← HX.out.1, ← HX.out.2]
        exact HQ4.out

theorem gathAll_cut (lo hi i : Nat) (l : List (Nat × Nat)) : (gathAll lo hi (l.take i)).length ≤ (gathAll lo hi l).length := by
  have e : gathAll lo hi l = gathAll lo hi (l.take i) ++ gathAll lo hi (l.drop i) := by
    unfold gathAll; rw [← List.flatMap_append, List.take_append_drop]
  rw [e, List.length_append]; omega
theorem gathAll_le (lo hi n : Nat) : ∀ d, (gathAll lo hi (mtS n d)).length ≤ n % 2 ^ d
  | 0 => by simp [gathAll, mtS]
  | d + 1 => by
    have ih := gathAll_le lo hi n d
    have hb := bit_lt n d
    have hm := mod_succ n d
    rw [mtS]
    by_cases e : bit n d = 1
    · rw [if_pos e]
      rw [e, Nat.mul_one] at hm
      have hg := gath_le lo hi d (n / 2 ^ d - 1)
      have es : gathAll lo hi ([(d, n / 2 ^ d - 1)] ++ mtS n d) = gath lo hi d (n / 2 ^ d - 1) ++ gathAll lo hi (mtS n d) := by unfold gathAll; simp
      rw [es, List.length_append]; omega
    · rw [if_neg e]
      have e0 : bit n d = 0 := by omega
      rw [e0, Nat.mul_zero] at hm
      rw [List.nil_append]; omega
theorem mtS_may (n : Nat) (hn : n ≤ 2 ^ 40) : ∀ d, d ≤ 41 → ∀ b ∈ mtS n d, May b.1 b.2
  | 0, _, b, hb => by simp [mtS] at hb
  | d + 1, hd, b, hb => by
    rw [mtS, List.mem_append] at hb
    rcases hb with h | h
    · by_cases e : bit n d = 1
      · rw [if_pos e, List.mem_singleton] at h
        subst h
        exact may_of_bit n d hn (by omega) e
      · rw [if_neg e] at h; cases h
    · exact mtS_may n hn d (by omega) b h
theorem bits1_ (n i : Nat) (hn : n < 2 ^ 64) (hi : i ≤ 64) : Go.bits .and .u64 (shr .u64 (n : Int) (i : Int)) 1 = (bit n i : Int) := by
  have hle : n / 2 ^ i ≤ n := Nat.div_le_self _ _
  rw [shrc n i hi]
  unfold bit
  generalize n / 2 ^ i = q at *
  rw [and_one_u64 _ (by omega) (by omega)]; omega
theorem lg_step_ (n i : Nat) : lg (n % 2 ^ (i + 1)) = if bit n i = 1 then (i : Int) else lg (n % 2 ^ i) := by
  have hb := bit_lt n i
  have hm := mod_succ n i
  have hl := Nat.mod_lt n (two_pow_pos i)
  split
  · rename_i h
    rw [h] at hm
    rw [hm]
    generalize n % 2 ^ i = q at *
    exact lg_eq (by omega) (by rw [Nat.pow_succ]; omega)
  · rename_i h
    have : bit n i = 0 := by omega
    rw [this] at hm; rw [hm]; simp
theorem log_run_ (n : Nat) (hn : n < 2 ^ 64) : ∀ (d k i : Nat), i + d = 64 → d < k → num_Log.l0 k n (lg (n % 2 ^ i)) i = some (lg n) := by
  intro d
  induction d with
  | zero =>
    intro k i hi hk
    obtain ⟨k, rfl⟩ : ∃ m, k = m + 1 := ⟨k - 1, by omega⟩
    have : i = 64 := by omega
    subst this
    simp only [num_Log.l0]; rw [if_neg (by omega), Nat.mod_eq_of_lt hn]
  | succ d ih =>
    intro k i hi hk
    obtain ⟨k, rfl⟩ : ∃ m, k = m + 1 := ⟨k - 1, by omega⟩
    have h := ih k (i + 1) (by omega) (by omega)
    rw [lg_step_] at h
    simp only [num_Log.l0]; rw [if_pos (by omega), if_pos (by omega), bits1_ n i hn (by omega), wrap64_in _ (by omega) (by omega)]
    by_cases e : bit n i = 1
    · rw [if_pos e] at h; rw [if_pos (by omega)]; exact h
    · rw [if_neg e] at h; rw [if_neg (by omega)]; exact h
theorem log_is_ (n k : Nat) (hn : n < 2 ^ 64) (hk : 65 ≤ k) : num_Log.f k n = some (lg n) := by
  have h := log_run_ n hn 64 k 0 (by omega) (by omega)
  simpa [num_Log.f, Nat.mod_one, lg_zero] using h
theorem mountains_run (n : Nat) (hn : n ≤ 2 ^ 40) : ∀ (d k : Nat) (acc : List S42), d ≤ 41 → d + 66 ≤ k → acc.length + d ≤ 50 → cover_Mountains.l0 k acc ((n % 2 ^ d : Nat) : Int) ((n / 2 ^ d * 2 ^ d : Nat) : Int) = some (acc ++ blks (mtS n d), 0) := by
  intro d
  induction d with
  | zero =>
    intro k acc _ hk _
    obtain ⟨k, rfl⟩ : ∃ m, k = m + 1 := ⟨k - 1, by omega⟩
    simp only [cover_Mountains.l0]
    rw [Nat.pow_zero, Nat.mod_one, if_neg (by omega)]
    simp [blks, mtS]
  | succ d ih =>
    intro k acc hd hk hl
    have hb := bit_lt n d
    have hms := mod_succ n d
    have hu := half_up n d
    have hp := two_pow_pos d
    have ep : 2 ^ (d + 1) = 2 * 2 ^ d := by rw [Nat.pow_succ, Nat.mul_comm]
    have hpd : 2 ^ d ≤ 2 ^ 40 := Nat.pow_le_pow_right (by omega) (by omega)
    have hlt := Nat.mod_lt n hp
    have hmul : n / 2 ^ (d + 1) * 2 ^ (d + 1) = 2 * (n / 2 ^ (d + 1)) * 2 ^ d := by rw [ep, ← Nat.mul_assoc, Nat.mul_comm _ 2]
    by_cases e : bit n d = 1
    · obtain ⟨k, rfl⟩ : ∃ m, k = m + 1 := ⟨k - 1, by omega⟩
      rw [e] at hu
      rw [e, Nat.mul_one] at hms
      have hle := Nat.div_mul_le_self n (2 ^ d)
      have hle1 := Nat.div_mul_le_self n (2 ^ (d + 1))
      have hlg : lg (n % 2 ^ (d + 1)) = (d : Int) := by
        rw [hms]; generalize n % 2 ^ d = q at *
        exact lg_eq (by omega) (by rw [Nat.pow_succ]; omega)
      have hq : n / 2 ^ (d + 1) * 2 ^ (d + 1) / 2 ^ d = n / 2 ^ d - 1 := by
        rw [hmul, Nat.mul_div_cancel _ hp]; omega
      have hs : n / 2 ^ (d + 1) * 2 ^ (d + 1) + 2 ^ d = n / 2 ^ d * 2 ^ d := by
        rw [hmul, hu, Nat.add_mul, Nat.one_mul]
      have hs1 := shlc 1 d (by omega) (by omega)
      rw [Nat.one_mul] at hs1
      have hmlt : n % 2 ^ (d + 1) < 2 ^ 64 := by rw [hms]; omega
      have e1 : IntKind.u64.wrap (((n % 2 ^ (d + 1) : Nat) : Int) - ((2 ^ d : Nat) : Int)) = ((n % 2 ^ d : Nat) : Int) := by
        rw [hms]
        generalize n % 2 ^ d = r at *
        generalize 2 ^ d = p at *
        rw [wrap_u64_in _ (by omega) (by omega)]; omega
      have e2 : IntKind.u64.wrap (((n / 2 ^ (d + 1) * 2 ^ (d + 1) : Nat) : Int) + ((2 ^ d : Nat) : Int)) = ((n / 2 ^ d * 2 ^ d : Nat) : Int) := by
        rw [← Int.natCast_add, hs, wrap_u64_cast _ (by omega)]
      have hpos : ((n % 2 ^ (d + 1) : Nat) : Int) > 0 := by
        rw [hms]; generalize n % 2 ^ d = r at *; omega
      simp only [cover_Mountains.l0]
      rw [if_pos hpos, log_is_ _ k hmlt (by omega), hlg]
      simp only [Option.bind_some]
      rw [if_pos (by omega), if_pos (by omega), show shl .u64 1 (d : Int) = ((2 ^ d : Nat) : Int) from hs1, shrc _ d (by omega), hq, e1, e2, ih k _ (by omega) (by omega) (by rw [List.length_append]; simp; omega), mtS, if_pos e, List.append_assoc]
      rfl
    · have e0 : bit n d = 0 := by omega
      rw [e0, Nat.mul_zero, Nat.add_zero] at hms
      rw [e0, Nat.add_zero] at hu
      have hs : n / 2 ^ (d + 1) * 2 ^ (d + 1) = n / 2 ^ d * 2 ^ d := by rw [hmul, hu]
      rw [hms, hs, mtS, if_neg e]
      exact ih k acc (by omega) (by omega) (by omega)
theorem cover_Mountains.is (n k : Nat) (hn : n ≤ 2 ^ 40) (hk : 120 ≤ k) : cover_Mountains.f k n = some (blks (mtS n 41), 0) := by
  unfold cover_Mountains.f
  rw [if_neg (by omega)]
  have h := mountains_run n hn 41 k [] (by omega) (by omega) (by simp)
  rw [Nat.div_eq_of_lt (show n < 2 ^ 41 from by omega), Nat.zero_mul, Nat.mod_eq_of_lt (show n < 2 ^ 41 from by omega)] at h
  exact h
theorem cover_Mountains.no (n k : Nat) (hn : 2 ^ 40 < n) : cover_Mountains.f k n = some ([], 30) := by
  unfold cover_Mountains.f; rw [if_pos (by omega)]

/-- What cover.Range comes to. -/
def cover_Range.f (a0 : Int) (a1 : Int) (a2 : Int) : Option (List (S42) × Int) :=
  if 0 ≤ a0 ∧ 0 ≤ a1 ∧ 0 ≤ a2 then
    (if a2 > 1099511627776 then some ([], 30) else if a1 > a2 then some ([], 31) else if a0 > a1 then some ([], 41) else some (blks (gathAll a0.toNat a1.toNat (mtS a2.toNat 41)), 0))
  else none
set_option maxHeartbeats 2000000 in
set_option maxRecDepth 100000 in
theorem cover_Range.calls (a0 : Int) (a1 : Int) (a2 : Int) (r1 : List (S42)) (r2 : Int) (w : World) (h : cover_Range.f a0 a1 a2 = some (r1, r2)) :
    Calls Try.prog 17 #[.int .u64 a0, .int .u64 a1, .int .u64 a2] w fun e w' => ∃ v0_ : Value, e = .returned (.tuple #[v0_, .int .i64 r2]) ∧ Kd.R k42 42 w' w.heap.size (fun _ => True) v0_ r1 ∧ Below w.heap.size w w' := by
  unfold cover_Range.f at h
  by_cases hp : 0 ≤ a0 ∧ 0 ≤ a1 ∧ 0 ≤ a2
  · rw [if_pos hp] at h
    obtain ⟨p0, p1, p2⟩ := hp
    obtain ⟨lo, rfl⟩ := Int.eq_ofNat_of_zero_le p0
    obtain ⟨hi, rfl⟩ := Int.eq_ofNat_of_zero_le p1
    obtain ⟨n, rfl⟩ := Int.eq_ofNat_of_zero_le p2
    clear p0 p1 p2
    rw [Int.toNat_natCast, Int.toNat_natCast, Int.toNat_natCast] at h
    by_cases c1 : (n : Int) > 1099511627776
    · rw [if_pos c1] at h
      simp only [Option.some.injEq, Prod.mk.injEq] at h
      obtain ⟨rfl, rfl⟩ := h
      have HM := Aside0.mk (cover_Mountains.no n 0 (by omega))
      clear c1
      go_enter Try.func17, Try.ntmps17
      go_wp2_with (fail)
      refine (cover_Mountains.calls 0 n [] 30 _ HM.out).mono ?_
      rintro e w1 ⟨vm, rfl, hr, hb1⟩
      have HB1 := Aside0.mk (below_weaken (below_alloc (below_alloc (Below.refl w.heap.size w) (.cells #[.int .u64 lo] 22)) (.cells #[.int .u64 hi] 22)) (by simp; omega) hb1)
      clear hr hb1
      go_wp2
      go_ret2
      exact ⟨_, rfl, Kd.R_nil _ _ _ _ _, HB1.out⟩
    · rw [if_neg c1] at h
      have hK := cover_Mountains.is n 120 (by omega) (by omega)
      by_cases c2 : (hi : Int) > (n : Int)
      · rw [if_pos c2] at h
        simp only [Option.some.injEq, Prod.mk.injEq] at h
        obtain ⟨rfl, rfl⟩ := h
        have HM := Aside0.mk hK
        have h1 : decide (n < hi) = true := decide_eq_true (by omega)
        clear c1 c2 hK
        go_enter Try.func17, Try.ntmps17
        go_wp2_with (fail)
        refine (cover_Mountains.calls 120 n _ 0 _ HM.out).mono ?_
        rintro e w1 ⟨vm, rfl, hr, hb1⟩
        obtain ⟨A, c, hvm, _, _⟩ := Kd.R_reads hr
        obtain ⟨m2, hm2⟩ : ∃ m : Nat, m = (blks (mtS n 41)).length := ⟨_, rfl⟩
        rw [← hm2] at hvm
        clear hm2
        subst hvm
        have HB1 := Aside0.mk (below_weaken (below_alloc (below_alloc (Below.refl w.heap.size w) (.cells #[.int .u64 lo] 22)) (.cells #[.int .u64 hi] 22)) (by simp; omega) hb1)
        have hch : w1.cell? ⟨w.heap.size + 1, 0, none⟩ = some (.int .u64 hi) := by
          have := cell_of_one (blk_below (blk_new (w.alloc (.cells #[.int .u64 lo] 22)) (.cells #[.int .u64 hi] 22)) hb1)
          simpa using this
        clear hr hb1
        go_wp2
        go_ret2
        exact ⟨_, rfl, Kd.R_nil _ _ _ _ _, HB1.out⟩
      · rw [if_neg c2] at h
        by_cases c3 : (lo : Int) > (hi : Int)
        · rw [if_pos c3] at h
          simp only [Option.some.injEq, Prod.mk.injEq] at h
          obtain ⟨rfl, rfl⟩ := h
          have HM := Aside0.mk hK
          have h1 : decide (n < hi) = false := decide_eq_false (by omega)
          have h2 : decide (hi < lo) = true := decide_eq_true (by omega)
          clear c1 c2 c3 hK
          go_enter Try.func17, Try.ntmps17
          go_wp2_with (fail)
          refine (cover_Mountains.calls 120 n _ 0 _ HM.out).mono ?_
          rintro e w1 ⟨vm, rfl, hr, hb1⟩
          obtain ⟨A, c, hvm, _, _⟩ := Kd.R_reads hr
          obtain ⟨m2, hm2⟩ : ∃ m : Nat, m = (blks (mtS n 41)).length := ⟨_, rfl⟩
          rw [← hm2] at hvm
          clear hm2
          subst hvm
          have HB1 := Aside0.mk (below_weaken (below_alloc (below_alloc (Below.refl w.heap.size w) (.cells #[.int .u64 lo] 22)) (.cells #[.int .u64 hi] 22)) (by simp; omega) hb1)
          have hcl : w1.cell? ⟨w.heap.size, 0, none⟩ = some (.int .u64 lo) := cell_of_one (blk_below (blk_alloc (blk_new w (.cells #[.int .u64 lo] 22)) (.cells #[.int .u64 hi] 22)) hb1)
          have hch : w1.cell? ⟨w.heap.size + 1, 0, none⟩ = some (.int .u64 hi) := by
            have := cell_of_one (blk_below (blk_new (w.alloc (.cells #[.int .u64 lo] 22)) (.cells #[.int .u64 hi] 22)) hb1)
            simpa using this
          clear hr hb1
          go_wp2
          go_ret2
          exact ⟨_, rfl, Kd.R_nil _ _ _ _ _, HB1.out⟩
        · rw [if_neg c3] at h
          simp only [Option.some.injEq, Prod.mk.injEq] at h
          obtain ⟨rfl, rfl⟩ := h
          have hlen := mtS_le n 41
          refine range_walk 120 lo hi n (mtS n 41) w hK (mtS_may n (by omega) 41 (by omega)) (by omega) (fun i _ => ?_) (decide_eq_false (by omega)) (decide_eq_false (by omega))
          have g1 := gathAll_cut lo hi i (mtS n 41)
          have g2 := gathAll_le lo hi n 41
          have g3 : n % 2 ^ 41 = n := Nat.mod_eq_of_lt (by omega)
          omega
  · rw [if_neg hp] at h; cases h

end Go.Proofs.Ytkefjoljokfieaa.PCoverRests
