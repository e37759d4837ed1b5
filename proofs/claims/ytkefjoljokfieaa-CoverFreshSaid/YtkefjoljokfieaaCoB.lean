/- massiflaw04.CoverFresh: what stands beside the lists. No condition beyond those that each theorem names. -/
import Derived.Test.YtkefjoljokfieaaCoP
import Derived.Test.YtkefjoljokfieaaDk2
import Derived.Test.YtkefjoljokfieaaWKept
import Derived.Carry
set_option linter.unusedVariables false
namespace Go.Proofs.Ytkefjoljokfieaa.Cf
open Go.RowKit Go.Proofs.Ytkefjoljokfieaa.MB Go.Proofs.YtkefjoljokfieaaW.PrintWords Go.Proofs.YtkefjoljokfieaaW.PrintLast Go.Proofs.YtkefjoljokfieaaW.PrintMore Go.Proofs.Ytkefjoljokfieaa.PCoverFresh Go.Proofs.Ytkefjoljokfieaa.Pure Go.Proofs.Ytkefjoljokfieaa.Ob Go.Proofs.Ytkefjoljokfieaa.Ap Go.Proofs.Ytkefjoljokfieaa.Dk
/-- The t-th list told. -/
def T3 (M R Z : List S42) (t : Nat) : List S42 := if t % 3 = 0 then M else if t % 3 = 1 then R else Z
theorem T3_mod (M R Z : List S42) (t : Nat) : T3 M R Z (t % 3) = T3 M R Z t := by unfold T3; rw [Nat.mod_mod]
theorem T3_len {M R Z : List S42} {B : Nat} (h1 : M.length ≤ B) (h2 : R.length ≤ B) (h3 : Z.length ≤ B) (t : Nat) : (T3 M R Z t).length ≤ B := by
  unfold T3; split
  · exact h1
  · split
    · exact h2
    · exact h3
/-- The mark of a list, and its cells. -/
def mk (t : Nat) : S42 := ⟨-1 - (t : Int), 0⟩
def mc (t : Nat) : List Value := [.int .i64 (-1 - (t : Int)), .int .u64 0]
theorem mc_of (t : Nat) (w : World) (c : List Value) (h : k42.K w (mk t) c) : c = mc t := k42_open h
theorem kB_M (w : World) (base : Nat) (ok : Nat → Prop) (x : S42) (cs : List Value) : k42.M w base ok x cs ↔ cs = [(Value.int .i64 x.f0, Value.int .u64 x.f1).1, (Value.int .i64 x.f0, Value.int .u64 x.f1).2] :=
  ⟨fun h => k42_openM h, fun h => h ▸ k42_mkM w base ok x⟩
/-- What stands beside the lists: the set (colour 4), the row of lists (1), the row of copies (2), the copies (5). -/
structure Bs (w0 w : World) (col : Nat → Nat) (As : Option Addr) (cs : Nat) (set : List Int) (va : Value) (ha : List H) (vw : Value) (hw : List H) (Ws : List (List S42)) : Prop where
  set : Kd.R (Kd.int .u64) 22 w 0 (fun j => col j = 4) (.slice As set.length cs) set
  all : kH.R 26 w 0 (fun j => col j = 1) va ha
  was : kH.R 26 w 0 (fun j => col j = 2) vw hw
  wl : Ws.length = hw.length
  row : ∀ (t : Nat) (h : H) X, hw[t]? = some h → Ws[t]? = some X → Kd.R k42 42 w 0 (fun j => col j = 5) h.val X
  low : ∀ j, col j ≠ 0 → w0.heap.size ≤ j
  bel : Below w0.heap.size w0 w
section
variable {w0 w w1 : World} {col col' : Nat → Nat} {As : Option Addr} {cs : Nat} {set : List Int} {va vw v : Value} {ha ha' hw : List H} {Ws Xs : List (List S42)}
theorem Bs.step (b : Bs w0 w col As cs set va ha vw hw Ws) (hm : ∀ j, (col j = 1 ∨ col j = 2 ∨ col j = 4 ∨ col j = 5) → j < w.heap.size → w1.heap[j]? = w.heap[j]?) (hb : Below w0.heap.size w0 w1) : Bs w0 w1 col As cs set va ha vw hw Ws :=
  ⟨Kd.R_step b.set (fun j hj hl => hm j (.inr (.inr (.inl hj))) hl), Kd.R_step b.all (fun j hj hl => hm j (.inl hj) hl), Kd.R_step b.was (fun j hj hl => hm j (.inr (.inl hj)) hl), b.wl, fun t h X h1 h2 => Kd.R_step (b.row t h X h1 h2) (fun j hj hl => hm j (.inr (.inr (.inr hj))) hl), b.low, hb⟩
theorem Bs.below (b : Bs w0 w col As cs set va ha vw hw Ws) (hb : Below w.heap.size w w1) : Bs w0 w1 col As cs set va ha vw hw Ws := b.step (fun j _ hj => hb.block j hj) (below_weaken b.bel b.bel.size hb)
theorem Bs.recol (b : Bs w0 w col As cs set va ha vw hw Ws) (hc : ∀ j, j < w.heap.size → col' j = col j) (hl : ∀ j, col' j ≠ 0 → w0.heap.size ≤ j) : Bs w0 w col' As cs set va ha vw hw Ws :=
  ⟨R_recol b.set hc, R_recol b.all hc, R_recol b.was hc, b.wl, fun t h X h1 h2 => R_recol (b.row t h X h1 h2) hc, hl, b.bel⟩
theorem Bs.coled (b : Bs w0 w col As cs set va ha vw hw Ws) (t : Nat) : Bs w0 w (coled w col t) As cs set va ha vw hw Ws :=
  b.recol (coled_old w col t) (fun j hj => by
    have hz := b.bel.size
    unfold Ap.coled at hj
    by_cases c : w.heap.size ≤ j
    · omega
    · rw [if_neg c] at hj; exact b.low j hj)
/-- A row of no concern (3, or a list's) has been written. -/
theorem Bs.grown {row : Option Nat} (b : Bs w0 w col As cs set va ha vw hw Ws) (hg : w.grownBy w1 row) (hn : ∀ j, row = some j → col j = 3 ∨ 6 ≤ col j) : Bs w0 w1 col As cs set va ha vw hw Ws :=
  b.step (fun j hj hl => hg.block j hl (fun e => by have := hn j e.symm; omega))
    (Kp.old b.bel b.bel.size (Kp.grown (Kp.refl w (fun j => w0.heap.size ≤ j)) hg (fun j hj => .inl (b.low j (by have := hn j hj; omega)))) (fun _ h => h))
/-- The row of lists has been lengthened. -/
theorem Bs.newAll (b : Bs w0 w col As cs set va ha vw hw Ws) (hg : w.grownBy w1 va.ownBlock) (hr : kH.R 26 w1 0 (fun j => col j = 1 ∨ w.heap.size ≤ j) v ha') : Bs w0 w1 (Ap.coled w col 1) As cs set v ha' vw hw Ws := by
  have h := b.coled 1
  have hrow : ∀ j, va.ownBlock = some j → Ap.coled w col 1 j = 1 := fun j hj => h.all.1 j hj
  refine ⟨R_other h.set hg (fun j hj => by rw [hrow j hj]; omega), Kd.R_mono hr (fun j hj => ?_), R_other h.was hg (fun j hj => by rw [hrow j hj]; omega), h.wl, fun t x X h1 h2 => R_other (h.row t x X h1 h2) hg (fun j hj => by rw [hrow j hj]; omega), h.low,
    Kp.old h.bel h.bel.size (Kp.grown (Kp.refl w (fun j => w0.heap.size ≤ j)) hg (fun j hj => .inl (h.low j (by rw [hrow j hj]; omega)))) (fun _ h => h)⟩
  unfold Ap.coled
  by_cases e : w.heap.size ≤ j
  · rw [if_pos e]
  · rw [if_neg e]; rcases hj with hj | hj
    · exact hj
    · exact absurd hj e
/-- The row of copies has been lengthened. -/
theorem Bs.newWas {h : H} {X : List S42} (b : Bs w0 w col As cs set va ha vw hw Ws) (hg : w.grownBy w1 vw.ownBlock) (hr : kH.R 26 w1 0 (fun j => col j = 2 ∨ w.heap.size ≤ j) v (hw ++ [h])) (hX : Kd.R k42 42 w 0 (fun j => col j = 5) h.val X) : Bs w0 w1 (Ap.coled w col 2) As cs set va ha v (hw ++ [h]) (Ws ++ [X]) := by
  have b2 := b.coled 2
  have hrow : ∀ j, vw.ownBlock = some j → Ap.coled w col 2 j = 2 := fun j hj => b2.was.1 j hj
  have hX2 := R_other (R_recol hX (coled_old w col 2)) hg (fun j hj => by rw [hrow j hj]; omega)
  refine ⟨R_other b2.set hg (fun j hj => by rw [hrow j hj]; omega), R_other b2.all hg (fun j hj => by rw [hrow j hj]; omega), Kd.R_mono hr (fun j hj => ?_), by simp [b.wl], fun t x Y h1 h2 => ?_, b2.low,
    Kp.old b2.bel b2.bel.size (Kp.grown (Kp.refl w (fun j => w0.heap.size ≤ j)) hg (fun j hj => .inl (b2.low j (by rw [hrow j hj]; omega)))) (fun _ h => h)⟩
  · unfold Ap.coled
    by_cases e : w.heap.size ≤ j
    · rw [if_pos e]
    · rw [if_neg e]; rcases hj with hj | hj
      · exact hj
      · exact absurd hj e
  · rcases Nat.lt_or_ge t hw.length with ht | ht
    · rw [List.getElem?_append_left ht] at h1
      rw [List.getElem?_append_left (by rw [b.wl]; exact ht)] at h2
      exact R_other (b2.row t x Y h1 h2) hg (fun j hj => by rw [hrow j hj]; omega)
    · rw [List.getElem?_append_right ht] at h1
      rw [List.getElem?_append_right (by rw [b.wl]; exact ht), b.wl] at h2
      have e0 : t - hw.length = 0 := by
        rcases Nat.eq_zero_or_pos (t - hw.length) with h | h
        · exact h
        · rw [List.getElem?_eq_none (by simp; omega)] at h1; cases h1
      rw [e0] at h1 h2
      simp at h1 h2
      subst h1 h2
      exact hX2
theorem fresh_row {α : Type} {d : Kd α} {e : TypeId} {t : Nat} {X : List α} (h : d.R e w1 w.heap.size (fun _ => True) v X) : d.R e w1 0 (fun j => Ap.coled w col t j = t) v X :=
  Kd.R_lower (Kd.R_mono (Kd.R_bound h) (fun j hj => by unfold Ap.coled; rw [if_pos hj.2.1])) (Nat.zero_le _)
/-- A list has been told. -/
theorem told {h : H} {X : List S42} (b : Bs w0 w col As cs set va ha vw hw Ws) (D : Deck k42 42 w col 6 ha' Xs) (hb : Below w.heap.size w w1) (hr : Kd.R k42 42 w1 w.heap.size (fun _ => True) h.val X) :
    Bs w0 w1 (Ap.coled w col (6 + ha'.length)) As cs set va ha vw hw Ws ∧ Deck k42 42 w1 (Ap.coled w col (6 + ha'.length)) 6 (ha' ++ [h]) (Xs ++ [X]) :=
  ⟨(b.coled _).below hb, ((D.recol (coled_old w col _)).below hb).push (fresh_row hr)⟩
end
theorem three_more {M R Z : List S42} {Xs : List (List S42)} {i : Nat} (hl : Xs.length = 3 * i) (h : ∀ (t : Nat) X, Xs[t]? = some X → X = T3 M R Z t) (t : Nat) (X : List S42) (hX : (Xs ++ [M] ++ [R] ++ [Z])[t]? = some X) : X = T3 M R Z t := by
  rw [List.append_assoc, List.append_assoc] at hX
  rcases Nat.lt_or_ge t Xs.length with ht | ht
  · rw [List.getElem?_append_left ht] at hX; exact h t X hX
  · rw [List.getElem?_append_right ht] at hX
    have e : t - Xs.length = 0 ∨ t - Xs.length = 1 ∨ t - Xs.length = 2 := by
      have h2 := (List.getElem?_eq_some_iff.1 hX).1
      simp at h2; omega
    unfold T3
    rcases e with e | e | e
    · rw [e] at hX; simp at hX; rw [if_pos (by omega), hX]
    · rw [e] at hX; simp at hX; rw [if_neg (by omega), if_pos (by omega), hX]
    · rw [e] at hX; simp at hX; rw [if_neg (by omega), if_neg (by omega), hX]
end Go.Proofs.Ytkefjoljokfieaa.Cf
