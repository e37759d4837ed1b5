/- The walk of massiflaw09.PeaksMemory. No condition beyond those that each theorem names. -/
import Derived.Test.YtdclafjgfnbibaaPkOn
import Derived.Test.YtdclafjgfnbibaaDk
import Derived.Test.YtdclafjgfnbibaaWq
import Derived.Test.YtdclafjgfnbibaaWt
import Derived.BigQuiet
import Derived.Deep.QuietTactic
import Derived.Deep.RegionHeld3
import Derived.Outline
import Derived.Maps.AppendAt
set_option linter.unusedVariables false
set_option linter.unusedSimpArgs false
namespace Go.Proofs.Ytdclafjgfnbibaa.Pm
open Go.RowKit Go.Proofs.Ytdclafjgfnbibaa.MB Go.Proofs.YtdclafjgfnbibaaW.PrintWords Go.Proofs.YtdclafjgfnbibaaW.PrintLast Go.Proofs.YtdclafjgfnbibaaW.PrintMore Go.Proofs.Ytdclafjgfnbibaa.PPeaksRefused Go.Proofs.Ytdclafjgfnbibaa.Ob Go.Proofs.Ytdclafjgfnbibaa.Pk Go.Proofs.Ytdclafjgfnbibaa.Ap Go.Proofs.Ytdclafjgfnbibaa.Dk Go.Proofs.Ytdclafjgfnbibaa.Wq Go.Proofs.Ytdclafjgfnbibaa.Ws
attribute [local go_sem] Go.Proofs.Ytdclafjgfnbibaa.Ws.yq Go.Proofs.Ytdclafjgfnbibaa.Ws.yAt
theorem and_pred : ∀ (d i : Nat), i < 2 ^ d → 0 < i → d ≤ 64 → onesF d (i &&& (i - 1)) + 1 = onesF d i ∧ (i &&& (i - 1)) < i
  | 0, i, h, h0, _ => by omega
  | d + 1, i, h, h0, hd => by
    have h1 : (i &&& (i - 1)) / 2 = (i / 2) &&& ((i - 1) / 2) := Nat.and_div_two
    have h2 : (i &&& (i - 1)) % 2 = 1 ↔ (i % 2 = 1 ∧ (i - 1) % 2 = 1) := Nat.and_mod_two_eq_one
    have hb : ∀ m, onesF (d + 1) m = m % 2 + onesF d (m / 2) := fun m => rfl
    rcases Nat.mod_two_eq_zero_or_one i with e | e
    · have e1 : (i - 1) / 2 = i / 2 - 1 := by omega
      have e2 : (i &&& (i - 1)) % 2 = 0 := by omega
      have ih := and_pred d (i / 2) (by omega) (by omega) (by omega)
      rw [hb, hb, h1, e1, e2, e]
      rw [e1] at h1
      exact ⟨by omega, by omega⟩
    · have e1 : (i - 1) / 2 = i / 2 := by omega
      have e2 : (i &&& (i - 1)) % 2 = 0 := by omega
      rw [e1, Nat.and_self] at h1
      rw [hb, hb, h1, e2, e]
      exact ⟨by omega, by omega⟩
theorem and_ones (i : Nat) (h : i < 2 ^ 64) (h0 : 0 < i) : MB.ones (i &&& (i - 1)) + 1 = MB.ones i ∧ (i &&& (i - 1)) < i := and_pred 64 i h h0 (Nat.le_refl _)
theorem byte_str (w : World) (b : Int) : (convert 27 9 (.slice (some ⟨w.heap.size, 0, none⟩) 1 1)).run Try.prog (w.alloc (.cells #[.int .u8 b] 5)) = .ok (.string (strOfNums [b])) (w.alloc (.cells #[.int .u8 b] 5)) := by
  have h2 := World.ownsRow_lit (base := w.heap.size) (e := 5) (size := 1) w #[.int .u8 b] 1 (Nat.le_refl _) (by simp [maxLen]) (by simp)
  have hR : Kd.R (Kd.int .u8) 5 (w.alloc (.cells #[.int .u8 b] 5)) w.heap.size (fun j => w.heap.size ≤ j) (.slice (some ⟨w.heap.size, 0, none⟩) 1 1) [b] := Kd.R_of_own (enc := Value.int .u8) (h1 := fun _ => rfl) (xs := [b]) (by simpa [encs] using h2) (fun k hk => by cases hk; exact Nat.le_refl _)
  exact own_string (P := Try.prog) Try.underlying27 Try.underlying5 Try.underlying9 (Kd.own_of_R hR)
theorem WS_w {P : Program} {ops : Array Oper} {Q : Exit → Act → World → Prop} {S : World → Prop} {i : Nat} {σ : List (Nat × Bool)} {oi : Oper} {a : Act} {w : World} (hi : ops[i]? = some oi) (hS : S w) (hw : Region.wanted oi (yielded ops a.tmps) = true)
    (h : ∀ K : Act → Prop, (∀ a, WS P ops Q S σ a w → K a) → yq P oi a K) : WS P ops Q S ((i, false) :: σ) a w :=
  WS.y hi hS (fun K hK => by rw [if_pos hw]; exact h K hK)
theorem WS_c {P : Program} {ops : Array Oper} {Q : Exit → Act → World → Prop} {S : World → Prop} {i : Nat} {σ : List (Nat × Bool)} {oi : Oper} {a : Act} {w : World} (hi : ops[i]? = some oi) (hw : Region.wanted oi (yielded ops a.tmps) = true)
    (h : ∀ K' : Act → World → Prop, Shut (∀ a w, S w → WS P ops Q S σ a w → K' a w) → Oper.wp P oi a w K' Q) : WS P ops Q S ((i, true) :: σ) a w :=
  WS.c hi (fun K hK => by rw [if_pos hw]; exact h K hK)
theorem oper_append_apart {P : Program} {o : Oper} {a : Act} {K : Act → World → Prop} {Q : Exit → Act → World → Prop} {α : Type} (d : Kd α) {W : World} (s x : Operand) (t e : TypeId) (z : Value) (bytes : Nat)
    (ho : o.op = .call { callee := .builtin .append, args := #[s, x], argTypes := #[t, t] })
    (ht : P.underlying t = some (.slice e)) (hinfo : (P.info? e).map (fun i => (i.zero, i.size, i.bytes)) = some (some z, d.sz, bytes)) (hz : z.cells.size = d.sz) (hs0 : 0 < d.sz)
    (v : Value) (xs : List α) (p : α) (cs : List Value) (ok : Nat → Prop) (hs : a.eval s = v) (hx : a.eval x = .slice (some ⟨W.heap.size, 0, none⟩) 1 1) (hp : d.M W 0 (fun _ => False) p cs) (hfresh : ∀ k, W.heap.size ≤ k → ok k)
    (HO : d.R e W 0 ok v xs) (hl : (xs.length + 1) * bytes ≤ 140737488355328) (hb0 : 0 < bytes)
    (h : ∀ v1 w1, d.R e w1 0 ok v1 (xs ++ [p]) → W.grownBy w1 v.ownBlock → (v1.ownBlock = v.ownBlock ∨ ((∃ b, v1.ownBlock = some b ∧ W.heap.size ≤ b) ∧ ∀ k, k < W.heap.size → w1.heap[k]? = W.heap[k]?)) → K (a.put o.dst v1) w1) :
    Oper.wp P o a (W.alloc (.cells cs.toArray e)) K Q := by
  obtain ⟨h0, inner, hown, hr⟩ := HO
  obtain ⟨i0, hi, hzz⟩ := Option.map_eq_some_iff.1 hinfo
  simp only [Prod.mk.injEq] at hzz
  obtain ⟨hz0, hz1, hz2⟩ := hzz
  have hcl : cs.length = d.sz := d.K_len (d.K_of_M hp)
  have hlen : xs.length + 1 ≤ 140737488355328 := Nat.le_trans (Nat.le_mul_of_pos_right _ hb0) hl
  have hnews : ∀ j u, cs[j]? = some u → (W.alloc (.cells cs.toArray e)).cell? ((⟨W.heap.size, 0, none⟩ : Addr).add j) = some u := by
    simpa using World.news_of_block (cs := cs.toArray) (t := e) (fr := (0, 0)) (heap_alloc_new W (.cells cs.toArray e))
  have hown' := hown.alloc (.cells cs.toArray e)
  obtain ⟨v1, w1, hrun, h2, h3, _, h5⟩ := run_append_own_at (P := P) (W.alloc (.cells cs.toArray e)) 0 t o.type e i0 z d.sz bytes ht hi hz0 hz1 hz2 hz hs0 v xs.length inner hown' ⟨W.heap.size, 0, none⟩ 1 1 cs (by rw [hcl]; omega) hnews (d.K_one (d.K_of_M hp)) (by simp only [maxLen]; omega) hl (Nat.zero_le _)
  have h6 := append_apart (P := P) (W.alloc (.cells cs.toArray e)) 0 t o.type e i0 z ht hi hz0 v xs.length inner (by rw [hz1]; exact hown') ⟨W.heap.size, 0, none⟩ 1 1 cs (by rw [hcl, hz1]; omega) hnews (d.K_one (d.K_of_M hp)) (by omega) (by simp only [maxLen]; omega) (by rw [hz2]; exact hl) hrun
  have hg : W.grownBy w1 v.ownBlock := World.grownBy.trans (World.grownBy_alloc W _ _) h3
  have hat : v1.ownBlock = v.ownBlock ∨ ∃ b, v1.ownBlock = some b ∧ W.heap.size ≤ b := by
    rcases h5 with h5 | h5
    · exact .inl h5
    · exact .inr ⟨_, h5, by simp⟩
  unfold Oper.wp execOp
  simp only [ho, resolve, invoke, builtin, Sem.run_bind, Sem.run_pure, Result.andThen_ok, List.map_toArray, List.map_cons, List.map_nil, hs, hx, hrun]
  refine h v1 w1 (Kd.R_appended h0 hr hp (fun _ h => h.elim) hfresh h2 hg hat) hg ?_
  rcases hat with hat | hat
  · exact .inl hat
  · rcases h6 with h6 | h6
    · exact .inl h6
    · exact .inr ⟨hat, fun k hk => (h6 k (by simp; omega)).trans (by first | exact heap_alloc_old W _ hk | exact Go.heap_alloc_old W _ k hk)⟩
/-- What stands: the handed row (colour 1), its copy (2). -/
structure Bp (w0 w : World) (col : Nat → Nat) (vx : Value) (Lx : List ByteArray) (vq : Value) (Lw : List ByteArray) : Prop where
  wide : Kd.string.R 9 w 0 (fun j => col j = 1) vx Lx
  was : Kd.string.R 9 w 0 (fun j => col j = 2) vq Lw
  low : ∀ j, col j ≠ 0 → w0.heap.size ≤ j
  bel : Below w0.heap.size w0 w
section
variable {w0 w w1 : World} {col col' : Nat → Nat} {vx vq v : Value} {Lx Lw L1 : List ByteArray}
theorem Bp.step (b : Bp w0 w col vx Lx vq Lw) (hm : ∀ j, (col j = 1 ∨ col j = 2) → j < w.heap.size → w1.heap[j]? = w.heap[j]?) (hb : Below w0.heap.size w0 w1) : Bp w0 w1 col vx Lx vq Lw :=
  ⟨Kd.R_step b.wide (fun j hj hl => hm j (.inl hj) hl), Kd.R_step b.was (fun j hj hl => hm j (.inr hj) hl), b.low, hb⟩
theorem Bp.below (b : Bp w0 w col vx Lx vq Lw) (hb : Below w.heap.size w w1) : Bp w0 w1 col vx Lx vq Lw := b.step (fun j _ hj => hb.block j hj) (below_weaken b.bel b.bel.size hb)
theorem Bp.recol (b : Bp w0 w col vx Lx vq Lw) (hc : ∀ j, j < w.heap.size → col' j = col j) (hl : ∀ j, col' j ≠ 0 → w0.heap.size ≤ j) : Bp w0 w col' vx Lx vq Lw :=
  ⟨R_recol b.wide hc, R_recol b.was hc, hl, b.bel⟩
theorem Bp.coled (b : Bp w0 w col vx Lx vq Lw) (t : Nat) : Bp w0 w (Ap.coled w col t) vx Lx vq Lw :=
  b.recol (coled_old w col t) (fun j hj => by
    have hz := b.bel.size
    unfold Ap.coled at hj
    by_cases c : w.heap.size ≤ j
    · omega
    · rw [if_neg c] at hj; exact b.low j hj)
/-- A row of no concern has been written. -/
theorem Bp.grown {row : Option Nat} (b : Bp w0 w col vx Lx vq Lw) (hg : w.grownBy w1 row) (hn : ∀ j, row = some j → 3 ≤ col j) : Bp w0 w1 col vx Lx vq Lw :=
  b.step (fun j hj hl => hg.block j hl (fun e => by have := hn j e.symm; omega))
    (Kp.old b.bel b.bel.size (Kp.grown (Kp.refl w (fun j => w0.heap.size ≤ j)) hg (fun j hj => .inl (b.low j (by have := hn j hj; omega)))) (fun _ h => h))
/-- The handed row has been lengthened. -/
theorem Bp.longer (b : Bp w0 w col vx Lx vq Lw) (hg : w.grownBy w1 vx.ownBlock) (hr : Kd.string.R 9 w1 0 (fun j => col j = 1 ∨ w.heap.size ≤ j) v L1) : Bp w0 w1 (Ap.coled w col 1) v L1 vq Lw := by
  have h := b.coled 1
  have hrow : ∀ j, vx.ownBlock = some j → Ap.coled w col 1 j = 1 := fun j hj => h.wide.1 j hj
  refine ⟨Kd.R_mono hr (fun j hj => ?_), R_other h.was hg (fun j hj => by rw [hrow j hj]; omega), h.low,
    Kp.old h.bel h.bel.size (Kp.grown (Kp.refl w (fun j => w0.heap.size ≤ j)) hg (fun j hj => .inl (h.low j (by rw [hrow j hj]; omega)))) (fun _ h => h)⟩
  unfold Ap.coled
  by_cases e : w.heap.size ≤ j
  · rw [if_pos e]
  · rw [if_neg e]; rcases hj with hj | hj
    · exact hj
    · exact absurd hj e
/-- The handed row has been written over at a place. -/
theorem Bp.put (b : Bp w0 w col vx Lx vq Lw) {g : Nat} (hg : w.grownBy w1 (some g)) (hc : col g = 1) (hr : Kd.string.R 9 w1 0 (fun j => col j = 1) vx L1) : Bp w0 w1 col vx L1 vq Lw :=
  ⟨hr, R_other b.was hg (fun j hj => by cases hj; rw [hc]; omega), b.low,
    Kp.old b.bel b.bel.size (Kp.grown (Kp.refl w (fun j => w0.heap.size ≤ j)) hg (fun j hj => by cases hj; exact .inl (b.low g (by rw [hc]; omega)))) (fun _ h => h)⟩
end
theorem Rg.recol {w : World} {ha t : Nat} {col col' : Nat → Nat} {K n : Int} {L : List ByteArray} (h : Rg w ha (fun j => col j = t) K n L) (hc : ∀ j, j < w.heap.size → col' j = col j) : Rg w ha (fun j => col' j = t) K n L := h.bound.mono (fun j hj => by rw [hc j hj.2]; exact hj.1)
theorem Rg.other {w w1 : World} {ha t : Nat} {col : Nat → Nat} {K n : Int} {L : List ByteArray} {row : Option Nat} (h : Rg w ha (fun j => col j = t) K n L) (hg : w.grownBy w1 row) (hn : ∀ j, row = some j → col j ≠ t) : Rg w1 ha (fun j => col j = t) K n L :=
  h.step (fun j hj hl => hg.block j hl (fun e => hn j e.symm hj))
/-- All that stands: the rows, the ranges r (colour 3) and q (4), the lists (from 10). -/
structure Al (w0 w : World) (col : Nat → Nat) (vx : Value) (Lx : List ByteArray) (vq : Value) (Lw : List ByteArray) (K : Int) (ha : Nat) (na : Int) (La : List ByteArray) (hq : Nat) (nq : Int) (Lq : List ByteArray) (hs : List H) (Xs : List (List ByteArray)) : Prop where
  b : Bp w0 w col vx Lx vq Lw
  a : Rg w ha (fun j => col j = 3) K na La
  q : Rg w hq (fun j => col j = 4) K nq Lq
  d : Deck Kd.string 9 w col 10 hs Xs
section
variable {w0 w w1 : World} {col col' : Nat → Nat} {vx vq v : Value} {Lx Lw L1 : List ByteArray} {K na nq n1 : Int} {ha hq : Nat} {La Lq X : List ByteArray} {hs : List H} {Xs : List (List ByteArray)} {h : H}
theorem Al.below (A : Al w0 w col vx Lx vq Lw K ha na La hq nq Lq hs Xs) (hb : Below w.heap.size w w1) : Al w0 w1 col vx Lx vq Lw K ha na La hq nq Lq hs Xs := ⟨A.b.below hb, A.a.below hb, A.q.below hb, A.d.below hb⟩
theorem Al.recol (A : Al w0 w col vx Lx vq Lw K ha na La hq nq Lq hs Xs) (hc : ∀ j, j < w.heap.size → col' j = col j) (hl : ∀ j, col' j ≠ 0 → w0.heap.size ≤ j) : Al w0 w col' vx Lx vq Lw K ha na La hq nq Lq hs Xs :=
  ⟨A.b.recol hc hl, Rg.recol A.a hc, Rg.recol A.q hc, A.d.recol hc⟩
theorem Al.coled (A : Al w0 w col vx Lx vq Lw K ha na La hq nq Lq hs Xs) (t : Nat) : Al w0 w (Ap.coled w col t) vx Lx vq Lw K ha na La hq nq Lq hs Xs :=
  ⟨A.b.coled t, Rg.recol A.a (coled_old w col t), Rg.recol A.q (coled_old w col t), A.d.recol (coled_old w col t)⟩
/-- A list has been told. -/
theorem Al.told (A : Al w0 w col vx Lx vq Lw K ha na La hq nq Lq hs Xs) (hb : Below w.heap.size w w1) (hr : Kd.string.R 9 w1 w.heap.size (fun j => w.heap.size ≤ j) h.val X) :
    Al w0 w1 (Ap.coled w col (10 + hs.length)) vx Lx vq Lw K ha na La hq nq Lq (hs ++ [h]) (Xs ++ [X]) := by
  have A1 := (A.coled (10 + hs.length)).below hb
  exact ⟨A1.b, A1.a, A1.q, A1.d.push (Kd.R_lower (Kd.R_mono hr (fun j hj => by unfold Ap.coled; rw [if_pos hj])) (Nat.zero_le _))⟩
theorem low_of {c : Nat → Nat} (hb : Below w0.heap.size w0 w) (hl : ∀ j, col j ≠ 0 → w0.heap.size ≤ j) (hc : ∀ j, j < w.heap.size → c j = col j) : ∀ j, c j ≠ 0 → w0.heap.size ≤ j := fun j hj => by
  rcases Nat.lt_or_ge j w.heap.size with h | h
  · rw [hc j h] at hj; exact hl j hj
  · exact Nat.le_trans hb.size h
/-- A list has been written into. -/
theorem Al.put (A : Al w0 w col vx Lx vq Lw K ha na La hq nq Lq hs Xs) {t : Nat} {X1 : List ByteArray} (ht : hs[t]? = some h) (hX : Xs[t]? = some X) {row : Option Nat} (hg : w.grownBy w1 row) (hrow : ∀ j, row = some j → col j = 10 + t) (hR : Kd.string.R 9 w1 0 (fun j => col j = 10 + t) h.val X1) : Al w0 w1 col vx Lx vq Lw K ha na La hq nq Lq hs (Xs.set t X1) :=
  ⟨A.b.grown hg (fun j hj => by rw [hrow j hj]; omega), Rg.other A.a hg (fun j hj => by rw [hrow j hj]; omega), Rg.other A.q hg (fun j hj => by rw [hrow j hj]; omega), A.d.put ht hX hg hrow hR⟩
/-- A row of another colour has been written (no lists in sight). -/
theorem Al.grown0 (A : Al w0 w col vx Lx vq Lw K ha na La hq nq Lq [] []) {row : Option Nat} (hg : w.grownBy w1 row) (hn : ∀ j, row = some j → 5 ≤ col j) : Al w0 w1 col vx Lx vq Lw K ha na La hq nq Lq [] [] :=
  ⟨A.b.grown hg (fun j hj => by have := hn j hj; omega), Rg.other A.a hg (fun j hj => by have := hn j hj; omega), Rg.other A.q hg (fun j hj => by have := hn j hj; omega), Deck.nil _ _ _ _ _⟩
theorem R_any {e : TypeId} {b : Nat} {ok ok' : Nat → Prop} {xs : List ByteArray} (h : Kd.string.R e w b ok v xs) (h2 : ∀ k, v.ownBlock = some k → ok' k) : Kd.string.R e w b ok' v xs := ⟨h2, h.2.imp_ (fun _ _ hp => hp)⟩
/-- A range has taken a leaf and told a list: the new blocks are the list's or the range's (f: its colour, 3 or 4). -/
theorem Al.add (A : Al w0 w col vx Lx vq Lw K ha na La hq nq Lq hs Xs) (f : Nat) (hf : f = 3 ∨ f = 4) (hr : Kd.string.R 9 w1 w.heap.size (fun j => w.heap.size ≤ j) h.val X) (hk : Kp w w1 (fun j => col j = f)) :
    ∃ c : Nat → Nat, (∀ j, j < w.heap.size → c j = col j) ∧ (∀ j, w.heap.size ≤ j → some j ≠ h.val.ownBlock → c j = f) ∧ Bp w0 w1 c vx Lx vq Lw ∧ Deck Kd.string 9 w1 c 10 (hs ++ [h]) (Xs ++ [X]) ∧ (f = 4 → Rg w1 ha (fun j => c j = 3) K na La) ∧ (f = 3 → Rg w1 hq (fun j => c j = 4) K nq Lq) := by
  obtain ⟨c, hc⟩ : ∃ c : Nat → Nat, c = fun j => if w.heap.size ≤ j then (if h.blk = some j then 10 + hs.length else f) else col j := ⟨_, rfl⟩
  have hco : ∀ j, j < w.heap.size → c j = col j := fun j hj => by rw [hc]; simp only []; rw [if_neg (by omega)]
  have hl := low_of A.b.bel A.b.low hco
  have A1 := A.recol hco hl
  have hk1 : ∀ j, c j ≠ f → j < w.heap.size → w1.heap[j]? = w.heap[j]? := fun j hj hlt => hk.keep j hlt (fun e => hj (by rw [hco j hlt]; exact e))
  refine ⟨c, hco, fun j hj hn => ?_, A1.b.step (fun j hj hlt => hk1 j (by omega) hlt) (Kp.old A.b.bel A.b.bel.size (hk.mono (fun j e => A.b.low j (by omega))) (fun _ h => h)), (A1.d.step (fun j hj hlt => hk1 j (by omega) hlt)).push ?_, fun e => A1.a.step (fun j hj hlt => hk1 j (by omega) hlt), fun e => A1.q.step (fun j hj hlt => hk1 j (by omega) hlt)⟩
  · rw [H.own] at hn
    rw [hc]; simp only []; rw [if_pos hj, if_neg (fun e => hn e.symm)]
  · refine R_any (Kd.R_lower hr (Nat.zero_le _)) (fun k hk2 => ?_)
    have h1 := hr.1 k hk2
    rw [H.own] at hk2
    rw [hc]; simp only []; rw [if_pos h1, if_pos hk2]
end
/-- Four headers laid in a box. -/
theorem four {w : World} {g : Nat} {e : TypeId} {x y z u : H} (h : w.heap[g]? = some (.cells #[x.val, y.val, z.val, u.val] e (0, 0))) : Kd.C kH w (some ⟨g, 0, none⟩) 4 [x, y, z, u] := by
  refine Kd.C_of_reads (h1 := fun _ => rfl) (d := zH) ⟨rfl, by simp, fun _ => ⟨⟨g, 0, none⟩, rfl, fun i hi => ?_⟩⟩
  have e : i = 0 ∨ i = 1 ∨ i = 2 ∨ i = 3 := by have h2 : i < 4 := hi; omega
  rcases e with rfl | rfl | rfl | rfl <;> simp [World.cell?, h, Addr.add]
theorem four_R (w : World) (col : Nat → Nat) (t : Nat) (x y z u : H) : kH.R 25 (w.alloc (.cells #[x.val, y.val, z.val, u.val] 25)) 0 (fun j => Ap.coled w col t j = t) (.slice (some ⟨w.heap.size, 0, none⟩) 4 4) [x, y, z, u] := by
  have h2 := World.ownsRow_lit (base := w.heap.size) (e := 25) (size := 1) w #[x.val, y.val, z.val, u.val] 4 (Nat.le_refl _) (by simp [maxLen]) (by simp)
  exact Kd.R_lower (Kd.R_of_own (enc := H.val) (h1 := fun _ => rfl) (xs := [x, y, z, u]) (by simpa [encs] using h2) (fun k hk => by cases hk; unfold Ap.coled; rw [if_pos (Nat.le_refl _)])) (Nat.zero_le _)
/-- The mark of a list. -/
def mk (t : Nat) : ByteArray := strOfNums [(t : Int)]
def room : ByteArray := ⟨#[114, 111, 111, 109]⟩
def rooms (Lw : List ByteArray) (i : Nat) : List ByteArray := Lw ++ List.replicate i room
theorem rooms_succ (Lw : List ByteArray) (i : Nat) : rooms Lw i ++ [room] = rooms Lw (i + 1) := by
  unfold rooms; rw [List.append_assoc, List.replicate_succ']
theorem rooms_len (Lw : List ByteArray) (i : Nat) : (rooms Lw i).length = Lw.length + i := by unfold rooms; simp
/-- The four lists (all marks) and their lengthened copies: what is read of them. -/
theorem comp_facts {w : World} {col : Nat → Nat} {gz gy : Nat} {hs vs : List H} {xx : Nat → Nat} (hA : kH.R 25 w 0 (fun j => col j = 5) (.slice (some ⟨gz, 0, none⟩) 4 4) hs) (hG : kH.R 25 w 0 (fun j => col j = 6) (.slice (some ⟨gy, 0, none⟩) 4 4) vs)
    (F : Fs Kd.string 9 w col 10 hs vs mk (fun t => [Value.string (mk t)]) xx) (hl : hs.length = 4) (hx : ∀ s, s < 4 → xx s = 60) (hn : ∀ (t : Nat) (h : H), hs[t]? = some h → h.n ≤ 900) (i : Nat) (hi : i < 4) :
    ∃ (g2 cg : Nat) (ba : Option Nat) (na ca : Nat), na ≤ 900 ∧ ∀ w', Below w.heap.size w w' → w'.cell? ⟨gy, i, none⟩ = some (.slice (some ⟨g2, 0, none⟩) (na + 60) cg) ∧ w'.cell? ⟨gz, i, none⟩ = some (.slice (ba.map fun b => (⟨b, 0, none⟩ : Addr)) na ca) ∧
      (∀ j, j < na + 60 → w'.cell? ⟨g2, j, none⟩ = some (.string (strOfNums [(i : Int)]))) ∧ (∀ j, j < na → ∃ b, ba = some b ∧ w'.cell? ⟨b, j, none⟩ = some (.string (strOfNums [(i : Int)]))) := by
  obtain ⟨h, hh⟩ : ∃ h, hs[i]? = some h := ⟨_, List.getElem?_eq_getElem (by rw [hl]; exact hi)⟩
  obtain ⟨v, hv⟩ : ∃ v, vs[i]? = some v := ⟨_, List.getElem?_eq_getElem (by rw [F.len, hl]; exact hi)⟩
  have hF := F.fam i h v hh hv
  rw [hx i hi] at hF
  obtain ⟨g2, cp, eg, _, _, _⟩ := Kd.R_form hF.row (by rw [List.length_replicate]; omega)
  have hnn := hn i h hh
  obtain ⟨bh, nh, ch⟩ := h
  refine ⟨g2, cp, bh, nh, ch, hnn, fun w' hb => ⟨?_, ?_, fun j hj => ?_, fun j hj => ?_⟩⟩
  · obtain ⟨ad, e, h2⟩ := at_H (Kd.R_reads' (Kd.R_below hG hb)).2.2 i v hv
    cases e
    rw [add0] at h2
    rw [h2, eg, List.length_replicate]
  · obtain ⟨ad, e, h2⟩ := at_H (Kd.R_reads' (Kd.R_below hA hb)).2.2 i _ hh
    cases e
    rw [add0] at h2
    exact h2
  · have hr := hF.row
    rw [eg, List.length_replicate] at hr
    have h3 := rep_cells (cs := [Value.string (mk i)]) (b := 0) (fun w c h => h) (Kd.R_below hr hb) j hj 0 _ rfl
    rw [show j * Kd.string.sz + 0 = j from Nat.mul_one j] at h3
    exact h3
  · obtain ⟨b, e, h3⟩ := hF.cells j hj 0 _ rfl
    rw [show j * Kd.string.sz + 0 = j from Nat.mul_one j] at h3
    exact ⟨b, e, (hb.cell (World.block_lt_of_cell? _ _ h3)).trans h3⟩
theorem u8_small (m : Nat) (h : m < 256) : IntKind.u8.wrap (m : Int) = (m : Int) := by
  exact IntWalk.u8_in _ (by omega)
set_option maxHeartbeats 400000000 in
set_option maxRecDepth 100000 in
theorem memory_calls (w : World) (k : Int) (n0 : Nat) (s : ByteArray) (hn0 : n0 < 2 ^ 64) (hs : s.size ≤ 140737488351232) :
    Calls Try.prog 3 #[.int .i64 k, .int .u64 n0, .string s] w fun e w' => e = .returned (.bool true) ∧ Below w.heap.size w w' := by
  obtain ⟨K, hK, hK1, hK2⟩ := strength_is k
  have HKS := Aside0.mk hK
  have HKI := Aside0.mk (And.intro hK1 hK2)
  have HS := Aside0.mk hs
  have hn0' : (n0 : Int) ≤ 18446744073709551615 := by omega
  clear hK hK1 hK2 hn0 hs
  go_enter Try.func3, Try.ntmps3
  go_wp2_with (fail)
  refine (alive_calls w).mono ?_
  rintro e w1 ⟨rfl, hb1⟩
  have HB1 := Aside0.mk hb1
  clear hb1
  go_wp2_with (fail)
  refine (massiflaw09_strength.calls k K w1 HKS.out).mono ?_
  rintro e w2 ⟨rfl, hd⟩
  have HB2 := Aside0.mk (below_weaken HB1.out HB1.out.size hd.below)
  clear hd
  go_wp2_with (fail)
  obtain ⟨n, hn⟩ : ∃ n : Nat, (n : Int) = (n0 : Int) % 1099511627776 := ⟨n0 % 1099511627776, by omega⟩
  have HN := Aside0.mk (show n < 2 ^ 40 from by omega)
  rw [← hn]
  clear hn hn0' HB1
  go_loopg [7, 8] (MB.ones n) (fun kq v7 v8 w' => ∃ (i : Nat) (x : Int) (Lw : List ByteArray), v8 = .int .u64 x ∧ Aside0 (x = (i : Int)) ∧ Aside0 (kq = MB.ones i) ∧ Aside0 (Lw.length + MB.ones i = MB.ones n) ∧ Aside0 (i < 2 ^ 40) ∧ Aside0 (Kd.string.R 9 w' 0 (fun j => w.heap.size ≤ j) v7 Lw) ∧ Aside0 (∀ z ∈ Lw, (z.size : Int) = K) ∧ Aside0 (Below w.heap.size w w'))
  case atStart => exact ⟨n, (n : Int), [], rfl, ⟨rfl⟩, ⟨rfl⟩, ⟨by simp⟩, HN, ⟨Kd.R_nil _ _ _ _ _⟩, ⟨fun z hz => by cases hz⟩, HB2⟩
  case round =>
   obtain ⟨i, x, Lw, rfl, HX, HG, HC, HI, HR, HSZ, HB⟩ := hrel
   have x0 : 0 ≤ x := by rw [HX.out]; omega
   have x1 : x ≤ 1099511627776 := by rw [HX.out]; have := HI.out; omega
   by_cases hi : 0 < i
   · have t0 : decide (0 < x) = true := decide_eq_true (by rw [HX.out]; omega)
     have hx0 : 1 ≤ x := by rw [HX.out]; omega
     have HAO := Aside0.mk (and_ones i (by have := HI.out; omega) hi)
     obtain ⟨k1, rfl⟩ : ∃ k1, gk = k1 + 1 := ⟨gk - 1, by have := HAO.out; have := HG.out; omega⟩
     have HIP := Aside0.mk hi
     obtain ⟨Aw, cw, ew, hcw, _⟩ := Kd.R_reads HR.out
     subst ew
     obtain ⟨m, hm⟩ : ∃ m, m = Lw.length := ⟨_, rfl⟩
     have HM := Aside0.mk hm
     have HML := Aside0.mk (show m ≤ 64 from by have h1 := HC.out; have h2 := MB.ones_le n; omega)
     rw [← hm] at HR ⊢
     have u1 : IntKind.u8.wrap (m : Int) = (m : Int) := by
       have h1 := HML.out
       exact u8_small m (by omega)
     have hcv := byte_str wr (m : Int)
     obtain ⟨bs, hbs⟩ : ∃ bs, bs = strOfNums [(m : Int)] := ⟨_, rfl⟩
     rw [← hbs] at hcv
     have hbz : bs.size = 1 := by rw [hbs, MH.str_size]; rfl
     have hng : (9223372036854775807 < s.size + bs.size) = False := by rw [hbz]; exact eq_false (by have := HS.out; omega)
     clear hi hm hcw hbs hbz
     go_wp2_with (fail)
     refine (digest_calls _ (s ++ bs) K HKI.out.1 HKI.out.2).mono ?_
     rintro e w4 ⟨rfl, hb4⟩
     obtain ⟨D, hD⟩ : ∃ D, D = dgt (s ++ bs) K.toNat := ⟨_, rfl⟩
     rw [← hD]
     have HDZ := Aside0.mk (show (D.size : Int) = K from by rw [hD, dgt_size]; have := HKI.out; omega)
     have HR4 := Aside0.mk (Kd.R_below (Kd.R_below HR.out (below_alloc (Below.refl _ wr) (.cells #[.int .u8 (m : Int)] 5))) hb4)
     have HB4 := Aside0.mk (below_weaken (below_weaken HB.out HB.out.size (below_alloc (Below.refl _ wr) (.cells #[.int .u8 (m : Int)] 5))) (Nat.le_trans HB.out.size (below_alloc (Below.refl _ wr) (.cells #[.int .u8 (m : Int)] 5)).size) hb4)
     clear hD hb4 hcv hng u1
     go_wp2_with (first | ((with_reducible refine gate_builtin (b := .append) (xs := #[.tmp 44, .tmp 54]) rfl ?_); at_builtin; refine Kd.R_append Kd.string (w0 := w4) 0 rfl (.tmp 44) (.tmp 54) 25 9 (.string ⟨#[]⟩) 16 rfl Try.underlying25 (by kernel_rfl) rfl (by decide) (by omega) (.slice Aw m cw) Lw D [.string D] (fun j => w.heap.size ≤ j) (fun _ => False) rfl ?hx ?aP (fun _ hk => hk.elim) ?aF ?aO ?aB ?aS ?aL ?_; (case hx => first | rfl | (go_simp; done) | (simp [World.alloc]; done)); (case aP => exact rfl); (case aF => exact fun j hj => Nat.le_trans HB4.out.size hj); (case aO => exact HR4.out); (case aB => exact Below.refl _ _); (case aS => exact Nat.zero_le _); (case aL => have h1 := HML.out; have h2 := HM.out; omega); intro vm v5 ho hb5 hg5 hat; have HO5 := Aside0.mk ho; have HG5 := Aside0.mk hg5; clear ho hb5 hg5 hat))
     have HB5 := Aside0.mk (Kp.old HB4.out HB4.out.size (Kp.grown (Kp.refl w4 (fun j => w.heap.size ≤ j)) HG5.out (fun j hj => .inl (HR4.out.1 j hj))) (fun _ h => h))
     have HSZ5 := Aside0.mk (show ∀ z ∈ Lw ++ [D], (z.size : Int) = K from fun z hz => by
       rcases List.mem_append.1 hz with h | h
       · exact HSZ.out z h
       · rw [List.mem_singleton] at h; rw [h]; exact HDZ.out)
     go_roundg k1
     case measure => exact Nat.lt_succ_self _
     case rel =>
       have hx := HX.out
       have hip := HIP.out
       have hii := HI.out
       have hao := HAO.out
       have hc := HC.out
       refine ⟨i &&& (i - 1), _, Lw ++ [D], rfl, ⟨?_⟩, ⟨by have := HG.out; omega⟩, ⟨by rw [List.length_append]; simp; omega⟩, ⟨by omega⟩, HO5, HSZ5, HB5⟩
       rw [hx, show (i : Int) - 1 = ((i - 1 : Nat) : Int) from by omega, bits_and_u64_nat i (i - 1) (by omega) (by omega)]
   · have t0 : decide (0 < x) = false := decide_eq_false (by rw [HX.out]; omega)
     have HV := Aside0.mk (show Inv K n Lw from ⟨HKI.out.1, HKI.out.2, Nat.le_of_lt HN.out, by
       have e : i = 0 := by omega
       have := HC.out
       rw [e, MB.ones_zero] at this; omega, HSZ.out⟩)
     obtain ⟨Aw, cw, ew, hcw, hCw⟩ := Kd.R_reads HR.out
     subst ew
     obtain ⟨m, hm⟩ : ∃ m, m = Lw.length := ⟨_, rfl⟩
     have HM := Aside0.mk hm
     have HML := Aside0.mk (show m ≤ 64 from by have h1 := HV.out.len; have h2 := MB.ones_le n; omega)
     have HC0 := Aside0.mk hCw
     rw [← hm] at HR HC0 ⊢
     clear hi hm hcw hCw HC HI HX HG
     have HNE := Aside0.mk (show Kd.string.R 9 (wr.alloc (.cells #[] 9)) 0 (fun j => wr.heap.size ≤ j) (.slice (some ⟨wr.heap.size, 0, none⟩) 0 0) [] from by
       have h2 := World.ownsRow_lit (base := wr.heap.size) (e := 9) (size := 1) wr #[] 0 (Nat.le_refl _) (by simp [maxLen]) (by simp)
       exact Kd.R_lower (Kd.R_of_own (enc := Value.string) (h1 := fun _ => rfl) (xs := []) (by simpa [encs] using h2) (fun k hk => by cases hk; exact Nat.le_refl _)) (Nat.zero_le _))
     go_wp2_with (first | ((with_reducible refine gate_builtin (b := .append) (xs := #[.tmp 56, .tmp 57]) rfl ?_); at_builtin; refine Kd.R_append_rows Kd.string (w0 := wr.alloc (.cells #[] 9)) 0 rfl (.tmp 56) (.tmp 57) 25 9 (.string ⟨#[]⟩) 16 rfl Try.underlying25 (by kernel_rfl) rfl (by decide) (by omega) (.slice (some ⟨wr.heap.size, 0, none⟩) 0 0) ([] : List ByteArray) Lw Aw m cw (fun j => wr.heap.size ≤ j) (fun _ => False) rfl rfl ?aO ?aR (fun _ _ h => h) (fun _ h => h.elim) ?aF ?aB ?aS ?aL ?_; (case aO => exact HNE.out); (case aR => exact Kd.C_below HC0.out (below_alloc (Below.refl _ wr) _)); (case aF => exact fun j hj => Nat.le_trans (below_alloc (Below.refl _ wr) _).size hj); (case aB => exact Below.refl _ _); (case aS => exact Nat.zero_le _); (case aL => have h1 := HML.out; have h2 := HM.out; simp; omega); intro vq v1 ho hb5 hg5 hat; obtain ⟨Aq, cq, eq, _, _⟩ := Kd.R_reads ho; subst eq; have HO1 := Aside0.mk ho; have HG1 := Aside0.mk hg5; clear ho hb5 hg5 hat))
     obtain ⟨col, hcol⟩ : ∃ col : Nat → Nat, col = fun j => if j < w.heap.size then 0 else if j < wr.heap.size then 1 else 2 := ⟨_, rfl⟩
     have HBP := Aside0.mk (show Bp w v1 col (.slice Aw m cw) (rooms Lw 0) (.slice Aq Lw.length cq) Lw from by
       have hz := HB.out.size
       have ha := below_alloc (Below.refl _ wr) (.cells #[] 9)
       have hb1 : Below wr.heap.size wr v1 := Kp.old ha ha.size (Kp.grown (Kp.refl _ (fun j => wr.heap.size ≤ j)) HG1.out (fun j hj => .inl (by have : wr.heap.size = j := (by simpa [Value.ownBlock] using hj); omega))) (fun _ h => h)
       refine ⟨?_, ?_, fun j hj => ?_, below_weaken HB.out HB.out.size hb1⟩
       · have h := Kd.R_below (Kd.R_bound HR.out) hb1
         rw [show rooms Lw 0 = Lw from by unfold rooms; simp]
         refine Kd.R_mono h (fun j hj => ?_)
         have h1 := hj.1; have h2 := hj.2.2.1
         rw [hcol]; simp only []; rw [if_neg (by omega), if_pos h2]
       · refine Kd.R_mono HO1.out (fun j hj => ?_)
         rw [hcol]; simp only []; rw [if_neg (by omega), if_neg (by omega)]
       · rcases Nat.lt_or_ge j w.heap.size with h2 | h2
         · exfalso; apply hj; rw [hcol]; simp only []; rw [if_pos h2]
         · exact h2)
     clear hcol HO1 HG1 HNE HR HC0 HB HSZ
     go_loopg [7, 11] 30 (fun kq q7 q11 w' => ∃ (i : Nat) (col : Nat → Nat), q11 = .int .i64 (i : Int) ∧ Aside0 (i + kq = 30) ∧ Aside0 (Bp w w' col q7 (rooms Lw i) (.slice Aq Lw.length cq) Lw))
     case atStart => exact ⟨0, col, by rfl, ⟨by omega⟩, HBP⟩
     case round =>
      obtain ⟨i, col, rfl, HI, HBP⟩ := hrel
      cases gk with
      | zero =>
       have hlt : decide ((i : Int) < 30) = false := decide_eq_false (by have := HI.out; omega)
       have hlt' : decide (i < 30) = false := decide_eq_false (by have := HI.out; omega)
       have HI30 := Aside0.mk (show i = 30 from by have := HI.out; omega)
       rw [HI30.out] at HBP
       have hl30 : (rooms Lw 30).length = m + 30 := by rw [rooms_len, HM.out]
       obtain ⟨g, cap, ev, _⟩ := Kd.R_form HBP.out.wide (by rw [hl30]; omega)
       have hle := (Kd.R_reads' (ev ▸ HBP.out.wide)).2.1
       rw [hl30] at ev hle
       subst ev
       have HCP := Aside0.mk hle
       have p1 : (0 : Int) ≤ (m : Int) := by omega
       have p2 : (m : Int) ≤ (cap : Int) := by omega
       have p3 : m ≤ cap := by omega
       clear hle hl30 HI
       go_wp2_with (fail)
       have hC := (Kd.R_reads' HBP.out.wide).2.2
       have hC2 := Kd.C_take (m := Lw.length) hC (by rw [rooms_len]; omega)
       rw [show (rooms Lw 30).take Lw.length = Lw from by unfold rooms; exact List.take_left' rfl] at hC2
       have hfrom := from_ok wr K n (some ⟨g, 0, none⟩) cap Lw HV.out hC2
       rw [← HM.out] at hfrom
       refine hfrom.mono ?_
       clear hfrom hC hC2
       rintro e w6 ⟨ha, rfl, hle, hr6, hb6⟩
       obtain ⟨c1, hc1⟩ : ∃ c1, c1 = Ap.coled wr col 3 := ⟨_, rfl⟩
       have HBP6 := Aside0.mk (show Bp w w6 c1 (.slice (some ⟨g, 0, none⟩) (m + 30) cap) (rooms Lw 30) (.slice Aq Lw.length cq) Lw from by
         have h := HBP.out.coled 3
         rw [← hc1] at h; exact h.below hb6)
       have HA6 := Aside0.mk (show Rg w6 ha (fun j => c1 j = 3) K n Lw from hr6.mono (fun j hj => by rw [hc1]; unfold Ap.coled; rw [if_pos hj]))
       clear hc1 hle hr6 hb6 HBP
       go_wp2_with (fail)
       refine (from_ok w6 K n Aq cq Lw HV.out (Kd.R_reads' HBP6.out.was).2.2).mono ?_
       rintro e w7 ⟨hq, rfl, hle, hr7, hb7⟩
       obtain ⟨c2, hc2⟩ : ∃ c2, c2 = Ap.coled w6 c1 4 := ⟨_, rfl⟩
       have hco : ∀ j, j < w6.heap.size → c2 j = c1 j := by rw [hc2]; exact coled_old _ _ _
       have HBP7 := Aside0.mk (show Bp w w7 c2 (.slice (some ⟨g, 0, none⟩) (m + 30) cap) (rooms Lw 30) (.slice Aq Lw.length cq) Lw from by
         have h := HBP6.out.coled 4
         rw [← hc2] at h; exact h.below hb7)
       have HA7 := Aside0.mk (show Rg w7 ha (fun j => c2 j = 3) K n Lw from (Rg.recol HA6.out hco).below hb7)
       have HQ7 := Aside0.mk (show Rg w7 hq (fun j => c2 j = 4) K n Lw from hr7.mono (fun j hj => by rw [hc2]; unfold Ap.coled; rw [if_pos hj]))
       clear hc2 hco hle hr7 hb7 HBP6 HA6
       go_wp2_with (fail)
       clear p1 p2 p3 hlt hlt'
       obtain ⟨w8, hw8⟩ : ∃ x, x = w7 := ⟨_, rfl⟩
       rw [← hw8] at HBP7 HA7 HQ7 ⊢
       clear hw8
       have HLX := Aside0.mk (show (rooms Lw 30).length = m + 30 ∧ ∀ p, 0 ≤ p → (rooms Lw 30)[p]? = (rooms Lw 30)[p]? from ⟨by rw [rooms_len, HM.out], fun _ _ => rfl⟩)
       obtain ⟨N, hN⟩ : ∃ N, N = m + 30 := ⟨_, rfl⟩
       have HNM := Aside0.mk hN
       rw [← hN] at HBP7 HLX HCP ⊢
       clear hN
       go_loopg [16] N (fun kq q16 w' => ∃ (i : Nat) (Lx : List ByteArray), q16 = .int .i64 (i : Int) ∧ Aside0 (i + kq = N) ∧ Aside0 (Bp w w' c2 (.slice (some ⟨g, 0, none⟩) N cap) Lx (.slice Aq Lw.length cq) Lw) ∧ Aside0 (Rg w' ha (fun j => c2 j = 3) K n Lw) ∧ Aside0 (Rg w' hq (fun j => c2 j = 4) K n Lw) ∧ Aside0 (Lx.length = N ∧ ∀ p, i ≤ p → Lx[p]? = (rooms Lw 30)[p]?))
       case atStart => exact ⟨0, rooms Lw 30, by rfl, ⟨Nat.zero_add _⟩, HBP7, HA7, HQ7, HLX⟩
       case round =>
        obtain ⟨i, Lx, rfl, HI, HBP, HA, HQ, HLX⟩ := hrel
        cases gk with
        | zero =>
         have hlt : decide ((i : Int) < (N : Int)) = false := decide_eq_false (by have := HI.out; omega)
         have hlt' : decide (i < N) = false := decide_eq_false (by have := HI.out; omega)
         clear HI HLX
         have HAL := Aside0.mk (show Al w wr c2 (.slice (some ⟨g, 0, none⟩) N cap) Lx (.slice Aq Lw.length cq) Lw K ha n Lw hq n Lw [] [] from ⟨HBP.out, HA.out, HQ.out, Deck.nil _ _ _ _ _⟩)
         have HLN := Aside0.mk (show Lw.length ≤ 1000000 from by have h1 := HM.out; have h2 := HML.out; omega)
         clear HBP HA HQ
         go_wp2_with (fail)
         clear hlt hlt'
         refine (peaks_calls wr ha _ K n Lw HAL.out.a HLN.out).mono ?_
         rintro e z1 ⟨vx, rfl, hrx, hbx⟩
         obtain ⟨hx, ex, _⟩ := R_hdr hrx
         subst ex
         obtain ⟨c3, hc3⟩ : ∃ c3, c3 = Ap.coled wr c2 (10 + ([] : List H).length) := ⟨_, rfl⟩
         have hal := HAL.out.told hbx hrx
         rw [← hc3] at hal
         have HAL1 := Aside0.mk hal
         clear hc3 hal hrx hbx HAL
         go_wp2_with (fail)
         refine (peaks_calls z1 ha _ K n Lw HAL1.out.a HLN.out).mono ?_
         rintro e z2 ⟨vy, rfl, hry, hby⟩
         obtain ⟨hy, ey, _⟩ := R_hdr hry
         subst ey
         obtain ⟨c4, hc4⟩ : ∃ c4, c4 = Ap.coled z1 c3 (10 + ([] ++ [hx] : List H).length) := ⟨_, rfl⟩
         have hal := HAL1.out.told hby hry
         rw [← hc4] at hal
         have HAL2 := Aside0.mk hal
         clear hc4 hal hry hby HAL1
         obtain ⟨bx, nx1, cx⟩ := hx
         obtain ⟨by', ny, cy'⟩ := hy
         have hrx := HAL2.out.d.row 0 _ Lw (by rfl) (by rfl)
         have hry := HAL2.out.d.row 1 _ Lw (by rfl) (by rfl)
         have enx : nx1 = Lw.length := (Kd.R_reads' hrx).1
         have eny : ny = Lw.length := (Kd.R_reads' hry).1
         subst enx
         subst eny
         have HX := Aside0.mk (And.intro (Kd.R_reads' hrx).2.1 (Kd.R_reads' hrx).2.2)
         have HY := Aside0.mk (And.intro (Kd.R_reads' hry).2.1 (Kd.R_reads' hry).2.2)
         have HW := Aside0.mk (And.intro (Kd.R_reads' HAL2.out.b.was).2.1 (Kd.R_reads' HAL2.out.b.was).2.2)
         have HSM := Aside0.mk (show ∀ (X : List ByteArray) (A B : Option Addr) (c d : Nat) (w' : World), X.length ≤ 900 → Kd.C Kd.string w' A X.length X → X.length ≤ c → Kd.C Kd.string w' B X.length X → X.length ≤ d → Calls Try.prog 11 #[.slice A X.length c, .slice B X.length d] w' fun e w'' => e = .returned (.bool true) ∧ Below w'.heap.size w' w'' from fun X A B c d w' hx k1 k2 k3 k4 => (massiflaw09_same.calls 1000 A c X B d X true w' k1 k2 k3 k4 (massiflaw09_same.is 1000 X (by omega) (by omega))).mono (fun e w'' h => ⟨h.1, h.2.below⟩))
         have HL9 := Aside0.mk (show Lw.length ≤ 900 from by have h1 := HM.out; have h2 := HML.out; omega)
         clear hrx hry
         simp only [H.val]
         go_wp2_with (first
           | (go_at_call 11; refine (HSM.out Lw _ _ _ _ _ HL9.out HX.out.2 HX.out.1 HW.out.2 HW.out.1).mono ?_; rintro e z3 ⟨rfl, hb3⟩; have HAL3 := Aside0.mk (HAL2.out.below hb3); have HY3 := Aside0.mk (And.intro HY.out.1 (Kd.C_below HY.out.2 hb3)); have HW3 := Aside0.mk (And.intro HW.out.1 (Kd.C_below HW.out.2 hb3)); clear hb3 HX HY HW)
           | (go_at_call 11; refine (HSM.out Lw _ _ _ _ _ HL9.out HY3.out.2 HY3.out.1 HW3.out.2 HW3.out.1).mono ?_; rintro e z4 ⟨rfl, hb4⟩; have HAL4 := Aside0.mk (HAL3.out.below hb4); clear hb4 HY3 HW3))
         refine (digest_calls z4 (⟨#[120]⟩ : ByteArray) K HKI.out.1 HKI.out.2).mono ?_
         rintro e z5 ⟨rfl, hb5⟩
         obtain ⟨D, hD⟩ : ∃ D, D = dgt (⟨#[120]⟩ : ByteArray) K.toNat := ⟨_, rfl⟩
         have HDC := Aside0.mk (show ∀ W, Calls Try.prog 8 #[.string (⟨#[120]⟩ : ByteArray), .int .i64 K] W fun e w' => e = .returned (.string D) ∧ Below W.heap.size W w' from fun W => by rw [hD]; exact digest_calls W (⟨#[120]⟩ : ByteArray) K HKI.out.1 HKI.out.2)
         have hDZ : (D.size : Int) = K := by rw [hD, dgt_size]; have := HKI.out; omega
         have hop : opE K n 0 D = 0 := by
           unfold opE
           rw [if_neg (by omega), if_neg (by simp [Nat.mod_one]), if_neg (by have := HN.out; simp; omega)]
         have HON := Aside0.mk (show opN K n 0 D = n + 1 from by unfold opN; rw [if_pos hop]; simp)
         have HIV := Aside0.mk (show Inv K (n + 1) (opL K n Lw 0 D) from by have h := HV.out.op 0 D; rw [HON.out] at h; exact h)
         have HOM := Aside0.mk (show 1 ≤ (opM K n Lw 0 D).length ∧ (opM K n Lw 0 D).length ≤ 70 from by
           have h1 := HV.out.t K n Lw 0 (by omega)
           unfold opM; rw [if_pos hop, mades_len]
           simp only [Int.toNat_zero] at *
           omega)
         have HOE := Aside0.mk hop
         rw [← hD]
         have HAL5 := Aside0.mk (HAL4.out.below hb5)
         clear hD hDZ hop hb5 HAL4
         go_wp2_with (fail)
         refine (add_calls z5 ha _ K n Lw D HAL5.out.a HV.out).mono ?_
         rintro e z6 ⟨vd, rfl, hrd, hrg, hkp⟩
         rw [HON.out] at hrg
         rw [HOE.out]
         obtain ⟨M, hM⟩ : ∃ M, M = opM K n Lw 0 D := ⟨_, rfl⟩
         obtain ⟨L1, hL1⟩ : ∃ L1, L1 = opL K n Lw 0 D := ⟨_, rfl⟩
         rw [← hM] at hrd HOM
         rw [← hL1] at hrg HIV
         obtain ⟨hd, ed, _⟩ := R_hdr hrd
         subst ed
         obtain ⟨c5, hco, hcn, h1, h2, _, h4⟩ := HAL5.out.add 3 (.inl rfl) hrd hkp
         have HAL6 := Aside0.mk (show Al w z6 c5 (.slice (some ⟨g, 0, none⟩) N cap) Lx (.slice Aq Lw.length cq) Lw K ha ((n + 1 : Nat) : Int) L1 hq n Lw _ _ from ⟨h1, hrg.mono (fun j hj => by
           rcases hj with hj | hj
           · rw [hco j hj.2]; exact hj.1
           · exact hcn j hj.1 hj.2), h4 rfl, h2⟩)
         clear hrd hrg hkp hco hcn h1 h2 h4 HAL5
         go_wp2_with (fail)
         refine (HDC.out z6).mono ?_
         rintro e z7 ⟨rfl, hb7⟩
         have HAL7 := Aside0.mk (HAL6.out.below hb7)
         clear hb7 HAL6
         go_wp2_with (fail)
         refine (add_calls z7 hq _ K n Lw D HAL7.out.q HV.out).mono ?_
         rintro e z8 ⟨vm, rfl, hrd, hrg, hkp⟩
         rw [HON.out] at hrg
         rw [HOE.out]
         rw [← hM] at hrd
         rw [← hL1] at hrg
         obtain ⟨hm, em, _⟩ := R_hdr hrd
         subst em
         obtain ⟨c6, hco, hcn, h1, h2, h3, _⟩ := HAL7.out.add 4 (.inr rfl) hrd hkp
         have HAL8 := Aside0.mk (show Al w z8 c6 (.slice (some ⟨g, 0, none⟩) N cap) Lx (.slice Aq Lw.length cq) Lw K ha ((n + 1 : Nat) : Int) L1 hq ((n + 1 : Nat) : Int) L1 _ _ from ⟨h1, h3 rfl, hrg.mono (fun j hj => by
           rcases hj with hj | hj
           · rw [hco j hj.2]; exact hj.1
           · exact hcn j hj.1 hj.2), h2⟩)
         clear hrd hrg hkp hco hcn h1 h2 h3 HAL7 hM hL1 HON HOE HDC
         obtain ⟨bd, nd, cd⟩ := hd
         obtain ⟨bm, nm, cm⟩ := hm
         have hrd := HAL8.out.d.row 2 _ M (by rfl) (by rfl)
         have hrm := HAL8.out.d.row 3 _ M (by rfl) (by rfl)
         have end' : nd = M.length := (Kd.R_reads' hrd).1
         have enm : nm = M.length := (Kd.R_reads' hrm).1
         subst end'
         subst enm
         have HX := Aside0.mk (And.intro (Kd.R_reads' hrd).2.1 (Kd.R_reads' hrd).2.2)
         have HY := Aside0.mk (And.intro (Kd.R_reads' hrm).2.1 (Kd.R_reads' hrm).2.2)
         have HM9 := Aside0.mk (show M.length ≤ 900 from by have := HOM.out; omega)
         have d1 : decide ((M.length : Int) < 1) = false := decide_eq_false (by have := HOM.out; omega)
         have d2 : decide (M.length < 1) = false := decide_eq_false (by have := HOM.out; omega)
         clear hrd hrm
         simp only [H.val]
         go_wp2_with (first
           | (go_at_call 11; refine (HSM.out M _ _ _ _ _ HM9.out HX.out.2 HX.out.1 HY.out.2 HY.out.1).mono ?_; rintro e z9 ⟨rfl, hb9⟩; have HAL9 := Aside0.mk (HAL8.out.below hb9); clear hb9 HX HY))
         clear d1 d2
         obtain ⟨hs, hhs⟩ : ∃ hs : List H, hs = [⟨bx, Lw.length, cx⟩, ⟨by', Lw.length, cy'⟩, ⟨bd, M.length, cd⟩, ⟨bm, M.length, cm⟩] := ⟨_, rfl⟩
         obtain ⟨Xs, hXs⟩ : ∃ Xs : List (List ByteArray), Xs = [Lw, Lw, M, M] := ⟨_, rfl⟩
         have hal := HAL9.out
         rw [show ([] ++ [(⟨bx, Lw.length, cx⟩ : H)] ++ [⟨by', Lw.length, cy'⟩] ++ [⟨bd, M.length, cd⟩] ++ [⟨bm, M.length, cm⟩] : List H) = hs from by rw [hhs]; rfl, show ([] ++ [Lw] ++ [Lw] ++ [M] ++ [M] : List (List ByteArray)) = Xs from by rw [hXs]; rfl] at hal
         obtain ⟨c7, hc7⟩ : ∃ c7, c7 = Ap.coled z9 c6 5 := ⟨_, rfl⟩
         have hrw := four_R z9 c6 5 ⟨bx, Lw.length, cx⟩ ⟨by', Lw.length, cy'⟩ ⟨bd, M.length, cd⟩ ⟨bm, M.length, cm⟩
         rw [← hhs] at hrw
         have hal2 := (hal.coled 5).below (below_alloc (Below.refl _ z9) (.cells #[(⟨bx, Lw.length, cx⟩ : H).val, (⟨by', Lw.length, cy'⟩ : H).val, (⟨bd, M.length, cd⟩ : H).val, (⟨bm, M.length, cm⟩ : H).val] 25))
         rw [← hc7] at hrw hal2
         have HHL := Aside0.mk (show hs.length = 4 from by rw [hhs]; rfl)
         have HHV := Aside0.mk hhs
         have HHN := Aside0.mk (show ∀ (t : Nat) (h : H), hs[t]? = some h → h.n ≤ 900 from fun t h ht => by
           rw [hhs] at ht
           have ht4 : t < 4 := (List.getElem?_eq_some_iff.1 ht).1
           have e : t = 0 ∨ t = 1 ∨ t = 2 ∨ t = 3 := by omega
           have h1 := HL9.out
           have h2 := HM9.out
           rcases e with rfl | rfl | rfl | rfl <;> (cases ht; first | exact h1 | exact h2))
         obtain ⟨z10, hz10⟩ : ∃ x, x = z9.alloc (.cells #[(⟨bx, Lw.length, cx⟩ : H).val, (⟨by', Lw.length, cy'⟩ : H).val, (⟨bd, M.length, cd⟩ : H).val, (⟨bm, M.length, cm⟩ : H).val] 25) := ⟨_, rfl⟩
         rw [← hz10] at hrw hal2
         simp only [H.val] at hz10
         rw [← hz10]
         obtain ⟨gz, hgz⟩ : ∃ gz, gz = z9.heap.size := ⟨_, rfl⟩
         rw [← hgz] at hrw ⊢
         have HAL := Aside0.mk hal2
         have HAR := Aside0.mk hrw
         have HMK := Aside0.mk (show ∀ t X, t < 0 → Xs[t]? = some X → X = List.replicate X.length (mk t) from fun t X ht => absurd ht (Nat.not_lt_zero _))
         clear hc7 hrw hal hal2 hhs hXs hz10 hgz HAL9
         go_loopg [24] 4 (fun kq q24 w' => ∃ (i : Nat) (Xs : List (List ByteArray)), q24 = .int .i64 (i : Int) ∧ Aside0 (i + kq = 4) ∧ Aside0 (Al w w' c7 (.slice (some ⟨g, 0, none⟩) N cap) Lx (.slice Aq Lw.length cq) Lw K ha ((n + 1 : Nat) : Int) L1 hq ((n + 1 : Nat) : Int) L1 hs Xs) ∧ Aside0 (kH.R 25 w' 0 (fun j => c7 j = 5) (.slice (some ⟨gz, 0, none⟩) 4 4) hs) ∧ Aside0 (∀ t X, t < i → Xs[t]? = some X → X = List.replicate X.length (mk t)))
         case atStart => exact ⟨0, Xs, by rfl, ⟨by omega⟩, HAL, HAR, HMK⟩
         case round =>
          obtain ⟨i, Xs, rfl, HI, HAL, HAR, HMK⟩ := hrel
          cases gk with
          | zero =>
           have hlt : decide ((i : Int) < 4) = false := decide_eq_false (by have := HI.out; omega)
           have hlt' : decide (i < 4) = false := decide_eq_false (by have := HI.out; omega)
           have HMK := Aside0.mk (show ∀ t X, Xs[t]? = some X → X = List.replicate X.length (mk t) from fun t X hX => HMK.out t X (by have h1 := (List.getElem?_eq_some_iff.1 hX).1; have h2 := HAL.out.d.len; have h3 := HI.out; have h4 := HHL.out; omega) hX)
           clear HI
           have HFS := Aside0.mk (Fs.start (y := mk) (cs := fun t => [Value.string (mk t)]) (fun t w c h => h) HAL.out.d HMK.out)
           have HA0 := Aside0.mk (show Al w wr c7 (.slice (some ⟨g, 0, none⟩) N cap) Lx (.slice Aq Lw.length cq) Lw K ha ((n + 1 : Nat) : Int) L1 hq ((n + 1 : Nat) : Int) L1 [] [] from ⟨HAL.out.b, HAL.out.a, HAL.out.q, Deck.nil _ _ _ _ _⟩)
           clear HMK HAL
           go_wp2_with (fail)
           clear hlt hlt'
           obtain ⟨w9, hw9⟩ : ∃ x, x = wr := ⟨_, rfl⟩
           rw [← hw9] at HFS HA0 HAR ⊢
           clear hw9
           obtain ⟨c8, hc8⟩ : ∃ c8, c8 = Ap.coled w9 c7 6 := ⟨_, rfl⟩
           have hrw := four_R w9 c7 6 ⟨bx, Lw.length, cx⟩ ⟨by', Lw.length, cy'⟩ ⟨bd, M.length, cd⟩ ⟨bm, M.length, cm⟩
           rw [← HHV.out] at hrw
           have hba := below_alloc (Below.refl _ w9) (.cells #[(⟨bx, Lw.length, cx⟩ : H).val, (⟨by', Lw.length, cy'⟩ : H).val, (⟨bd, M.length, cd⟩ : H).val, (⟨bm, M.length, cm⟩ : H).val] 25)
           have h1 := (HA0.out.coled 6).below hba
           have h2 := Kd.R_below (R_recol HAR.out (coled_old w9 c7 6)) hba
           have h3 := (HFS.out.recol (coled_old w9 c7 6)).below hba
           rw [← hc8] at hrw h1 h2 h3
           obtain ⟨w11, hw11⟩ : ∃ x, x = w9.alloc (.cells #[(⟨bx, Lw.length, cx⟩ : H).val, (⟨by', Lw.length, cy'⟩ : H).val, (⟨bd, M.length, cd⟩ : H).val, (⟨bm, M.length, cm⟩ : H).val] 25) := ⟨_, rfl⟩
           rw [← hw11] at hrw h1 h2 h3
           simp only [H.val] at hw11
           rw [← hw11]
           obtain ⟨gy, hgy⟩ : ∃ gy, gy = w9.heap.size := ⟨_, rfl⟩
           rw [← hgy] at hrw ⊢
           have HA1 := Aside0.mk h1
           have HAR1 := Aside0.mk h2
           have HFS1 := Aside0.mk h3
           have HGR1 := Aside0.mk hrw
           clear hc8 hrw h1 h2 h3 hw11 hgy hba HA0 HAR HFS
           go_loopg [27] 60 (fun kq q27 w' => ∃ (j : Nat) (col : Nat → Nat) (vs : List H) (xx : Nat → Nat), q27 = .int .i64 (j : Int) ∧ Aside0 (j + kq = 60) ∧ Aside0 (Al w w' col (.slice (some ⟨g, 0, none⟩) N cap) Lx (.slice Aq Lw.length cq) Lw K ha ((n + 1 : Nat) : Int) L1 hq ((n + 1 : Nat) : Int) L1 [] []) ∧ Aside0 (kH.R 25 w' 0 (fun j => col j = 5) (.slice (some ⟨gz, 0, none⟩) 4 4) hs) ∧ Aside0 (kH.R 25 w' 0 (fun j => col j = 6) (.slice (some ⟨gy, 0, none⟩) 4 4) vs) ∧ Aside0 (Fs Kd.string 9 w' col 10 hs vs mk (fun t => [Value.string (mk t)]) xx) ∧ Aside0 (∀ s, s < 4 → xx s = j))
           case atStart => exact ⟨0, c8, hs, fun _ => 0, by rfl, ⟨by omega⟩, HA1, HAR1, HGR1, HFS1, ⟨fun _ _ => rfl⟩⟩
           case round =>
            obtain ⟨j, col, vs, xx, rfl, HI, HA, HAR, HGR, HFS, HXX⟩ := hrel
            cases gk with
            | zero =>
             have hlt : decide ((j : Int) < 60) = false := decide_eq_false (by have := HI.out; omega)
             have hlt' : decide (j < 60) = false := decide_eq_false (by have := HI.out; omega)
             have HXX := Aside0.mk (show ∀ s, s < 4 → xx s = 60 from fun s hs => by rw [HXX.out s hs]; have := HI.out; omega)
             clear HI
             go_wp2_with (fail)
             clear hlt hlt'
             obtain ⟨wz, hwz⟩ : ∃ x, x = wr := ⟨_, rfl⟩
             rw [← hwz] at HA HAR HGR HFS ⊢
             have HCF := Aside0.mk (comp_facts HAR.out HGR.out HFS.out HHL.out HXX.out HHN.out)
             have HA := Aside0.mk HA.out
             clear hwz HAR HGR HFS HXX
             go_loopg [29] 4 (fun kq q29 w' => ∃ (i : Nat), q29 = .int .i64 (i : Int) ∧ Aside0 (i + kq = 4) ∧ Aside0 (Below wz.heap.size wz w'))
             case atStart => exact ⟨0, by rfl, ⟨by omega⟩, ⟨Below.refl _ _⟩⟩
             case round =>
              obtain ⟨i, rfl, HI, HBZ⟩ := hrel
              cases gk with
              | zero =>
               have hlt : decide ((i : Int) < 4) = false := decide_eq_false (by have := HI.out; omega)
               have hlt' : decide (i < 4) = false := decide_eq_false (by have := HI.out; omega)
               go_wp2_with (fail)
               clear HI
               have HA1 := Aside0.mk (HA.out.below HBZ.out)
               have HLN := Aside0.mk (show L1.length ≤ 900 from by have := HIV.out.len; have := MB.ones_le (n + 1); omega)
               obtain ⟨D, hD⟩ : ∃ D, D = MH.rootD K ((n + 1 : Nat) : Int) L1 := ⟨_, rfl⟩
               have hrt := rootIs HIV.out
               rw [← hD] at hrt
               have hn40 := HN.out
               have u6 : IntKind.u64.wrap ((n : Int) + 1) = ((n + 1 : Nat) : Int) := by rw [show (n : Int) + 1 = ((n + 1 : Nat) : Int) from rfl]; exact MB.wrap_u64_in _ (by omega) (by omega)
               obtain ⟨N1, hN1⟩ : ∃ N1 : Int, N1 = ((n + 1 : Nat) : Int) := ⟨_, rfl⟩
               rw [← hN1] at HA1 hrt u6
               have HRT := Aside0.mk hrt
               clear hD hrt hN1 hn40
               go_wp2_with (fail)
               refine (size_calls _ ha _ K _ _ HA1.out.a).mono ?_
               rintro e v1 ⟨rfl, hb1⟩
               have HA2 := Aside0.mk (HA1.out.below hb1)
               clear hb1
               go_wp2_with (fail)
               refine (peaks_calls _ ha _ K _ L1 HA2.out.a (Nat.le_trans HLN.out (by decide))).mono ?_
               rintro e v2 ⟨va, rfl, hra, hb2⟩
               obtain ⟨Aa, ca, ea, hcca, hCa⟩ := Kd.R_reads hra
               subst ea
               have HA3 := Aside0.mk (HA2.out.below hb2)
               have HCA := Aside0.mk hCa
               have HCB := Aside0.mk hcca
               clear hra hCa hcca hb2
               go_wp2_with (fail)
               refine (peaks_calls _ hq _ K _ L1 HA3.out.q (Nat.le_trans HLN.out (by decide))).mono ?_
               rintro e v3 ⟨vb, rfl, hrb, hb3⟩
               obtain ⟨Ab, cb, eb, hccb, hCb⟩ := Kd.R_reads hrb
               subst eb
               have HA4 := Aside0.mk (HA3.out.below hb3)
               have HCA3 := Aside0.mk (Kd.C_below HCA.out hb3)
               have HCD := Aside0.mk (And.intro hCb hccb)
               clear hrb hCb hccb hb3
               go_wp2_with (fail)
               refine (HSM.out L1 _ _ _ _ _ HLN.out HCA3.out HCB.out HCD.out.1 HCD.out.2).mono ?_
               rintro e v4 ⟨rfl, hb4⟩
               have HA5 := Aside0.mk (HA4.out.below hb4)
               clear hb4
               go_wp2_with (fail)
               refine (root_calls 100 _ ha _ K N1 L1 D HA5.out.a HRT.out).mono ?_
               rintro e v5 ⟨rfl, hb5⟩
               have HA6 := Aside0.mk (HA5.out.below hb5)
               clear hb5
               go_wp2_with (fail)
               refine (root_calls 100 _ hq _ K N1 L1 D HA6.out.q HRT.out).mono ?_
               rintro e v6 ⟨rfl, hb6⟩
               have HA7 := Aside0.mk (HA6.out.below hb6)
               clear hb6
               go_wp2_with (fail)
               go_ret
               exact ⟨rfl, HA7.out.b.bel⟩
              | succ k1 =>
               have hil : i < 4 := by have h1 := HI.out; omega
               have HIL := Aside0.mk hil
               have HJ := Aside0.mk (show i + 1 + k1 = 4 from by have h1 := HI.out; omega)
               have hlt : decide ((i : Int) < 4) = true := decide_eq_true (by omega)
               have hlt' : decide (i < 4) = true := decide_eq_true hil
               have p1 : (0 : Int) ≤ (i : Int) := Int.natCast_nonneg _
               have p2 : (i : Int) < 4 := by omega
               have u3 : wrap64 ((i : Int) + 1) = (i : Int) + 1 := MB.wrap64_in _ (by omega) (by omega)
               obtain ⟨g2, cg, ba, na, ca, hna, hc⟩ := HCF.out i hil
               have HNA := Aside0.mk hna
               have HC := Aside0.mk hc
               clear hil hna hc HI
               go_wp2_with (fail)
               go_loopg [30] (na + 60) (fun kq q30 w' => ∃ (j : Nat), q30 = .int .i64 (j : Int) ∧ Aside0 (j + kq = na + 60) ∧ Aside0 (Below wz.heap.size wz w'))
               case atStart => exact ⟨0, by rfl, ⟨by omega⟩, HBZ⟩
               case round =>
                obtain ⟨j, rfl, HI, HBZ⟩ := hrel
                obtain ⟨n2, hn2⟩ : ∃ n2, n2 = na + 60 := ⟨_, rfl⟩
                rw [← hn2] at HI HC
                have HN2 := Aside0.mk hn2
                clear hn2
                have hcg := (HC.out wr HBZ.out).1
                cases gk with
                | zero =>
                 have hlt2 : decide ((j : Int) < (n2 : Int)) = false := decide_eq_false (fun h => by have h1 := HI.out; clear u3; omega)
                 have hlt3 : decide (j < n2) = false := decide_eq_false (fun h => by have h1 := HI.out; clear u3; omega)
                 go_wp2_with (fail)
                 go_roundg k1
                 case measure => exact Nat.lt_succ_self _
                 case rel => exact ⟨i + 1, by first | rfl | (rw [u3]; rfl), HJ, HBZ⟩
                | succ k2 =>
                 have hjl : j < n2 := by have h1 := HI.out; clear u3; omega
                 have HJ2 := Aside0.mk (show j + 1 + k2 = na + 60 from by have h1 := HI.out; have h2 := HN2.out; clear u3; omega)
                 have hlt2 : decide ((j : Int) < (n2 : Int)) = true := decide_eq_true (Int.ofNat_lt.mpr hjl)
                 have hlt3 : decide (j < n2) = true := decide_eq_true hjl
                 have p3 : (0 : Int) ≤ (j : Int) := Int.natCast_nonneg _
                 have p4 : (j : Int) < (n2 : Int) := Int.ofNat_lt.mpr hjl
                 have u5 : wrap64 ((j : Int) + 1) = (j : Int) + 1 := by
                   have h1 := HI.out
                   have h2 := HN2.out
                   have h3 := HNA.out
                   clear u3
                   exact MB.wrap64_in _ (by omega) (by omega)
                 have u1 : IntKind.u8.wrap (i : Int) = (i : Int) := u8_small i (Nat.lt_of_lt_of_le HIL.out (by decide))
                 have HJL := Aside0.mk hjl
                 clear hjl
                 go_wp2_with (fail)
                 clear hcg
                 obtain ⟨v0, hv0⟩ : ∃ x, x = wr.drew := ⟨_, rfl⟩
                 have hs0 : Below wz.heap.size wz v0 := by rw [hv0]; exact below_drew HBZ.out
                 have hcv := byte_str v0 (i : Int)
                 have hba := below_alloc (Below.refl _ v0) (.cells #[.int .u8 (i : Int)] 5)
                 have hs1 : Below wz.heap.size wz (v0.alloc (.cells #[.int .u8 (i : Int)] 5)) := below_weaken hs0 hs0.size hba
                 obtain ⟨v1, hv1⟩ : ∃ x, x = v0.alloc (.cells #[.int .u8 (i : Int)] 5) := ⟨_, rfl⟩
                 rw [← hv1] at hcv hs1
                 have HV1 := Aside0.mk hv1
                 clear hv1 hba
                 by_cases hja : j < na
                 · have e1 : decide ((j : Int) < (na : Int)) = true := decide_eq_true (Int.ofNat_lt.mpr hja)
                   have e2 : decide (j < na) = true := decide_eq_true hja
                   have p5 : (j : Int) < (na : Int) := Int.ofNat_lt.mpr hja
                   obtain ⟨g3, eg3, _⟩ := (HC.out v0 hs0).2.2.2 j hja
                   subst eg3
                   have HJA := Aside0.mk (show ∀ w', Below wz.heap.size wz w' → w'.cell? ⟨g3, j, none⟩ = some (.string (strOfNums [(i : Int)])) from fun w' hb => by
                     obtain ⟨b, e, h⟩ := (HC.out w' hb).2.2.2 j hja
                     cases e; exact h)
                   have hcv2 := byte_str v1 (i : Int)
                   have hba := below_alloc (Below.refl _ v1) (.cells #[.int .u8 (i : Int)] 5)
                   have hs2 : Below wz.heap.size wz (v1.alloc (.cells #[.int .u8 (i : Int)] 5)) := below_weaken hs1 hs1.size hba
                   obtain ⟨v2, hv2⟩ : ∃ x, x = v1.alloc (.cells #[.int .u8 (i : Int)] 5) := ⟨_, rfl⟩
                   rw [← hv2] at hcv2 hs2
                   have HV2 := Aside0.mk hv2
                   clear hv2 hba hja
                   refine region_ws ((0, false) :: (1, false) :: (2, false) :: (3, false) :: (4, false) :: (5, false) :: (6, false) :: (7, false) :: (8, false) :: (9, true) :: (10, true) :: (11, false) :: (12, false) :: (13, false) :: (14, false) :: (15, false) :: (16, false) :: (17, false) :: (18, false) :: (19, false) :: (20, false) :: (21, false) :: (22, false) :: (23, false) :: (24, false) :: (25, false) :: (26, false) :: (27, false) :: (28, false) :: (29, false) :: (30, true) :: (31, true) :: (32, false) :: (33, false) :: (34, false) :: []) (fun w' => Below wz.heap.size wz w') (by kernel_rfl) (by kernel_rfl) (fun _ d _ _ _ h => by cases d <;> exact h) ?_
                   rw [← hv0]
                   clear hv0
                   repeat (first | (refine WS_w rfl hs0 (by rfl) (fun KK hKK => ?_); go_simp; refine hKK _ ?_; clear hKK KK) | (refine WS.s rfl hs0 (by rfl) (fun KK hKK => ?_); go_simp; refine hKK _ ?_; clear hKK KK))
                   refine WS.l (.slice (some ⟨g2, 0, none⟩) n2 cg) rfl hs0 (by rfl) (fun w0 hSw => ?_) (fun KK hKK => ?_)
                   · (have hq := (HC.out w0 hSw).1; clear hs0 hs1 hs2 hcv hcv2; go_simp; try rfl)
                   go_simp
                   refine hKK _ ?_
                   clear hKK KK
                   repeat (first | (refine WS_w rfl hs0 (by rfl) (fun KK hKK => ?_); go_simp; refine hKK _ ?_; clear hKK KK) | (refine WS.s rfl hs0 (by rfl) (fun KK hKK => ?_); go_simp; refine hKK _ ?_; clear hKK KK))
                   refine WS.l (.string (strOfNums [(i : Int)])) rfl hs0 (by rfl) (fun w0 hSw => ?_) (fun KK hKK => ?_)
                   · (have hq := (HC.out w0 hSw).2.2.1 j HJL.out; clear hs0 hs1 hs2 hcv hcv2; go_simp; try rfl)
                   go_simp
                   refine hKK _ ?_
                   clear hKK KK
                   repeat (first | (refine WS_w rfl hs0 (by rfl) (fun KK hKK => ?_); go_simp; refine hKK _ ?_; clear hKK KK) | (refine WS.s rfl hs0 (by rfl) (fun KK hKK => ?_); go_simp; refine hKK _ ?_; clear hKK KK))
                   refine WS_c rfl (by rfl) (fun KK hKK => ?_)
                   go_simp
                   rw [← HV1.out]
                   refine hKK.out _ _ hs1 ?_
                   clear hKK KK
                   refine WS_c rfl (by rfl) (fun KK hKK => ?_)
                   go_simp
                   refine hKK.out _ _ hs1 ?_
                   clear hKK KK
                   repeat (first | (refine WS_w rfl hs1 (by rfl) (fun KK hKK => ?_); go_simp; refine hKK _ ?_; clear hKK KK) | (refine WS.s rfl hs1 (by rfl) (fun KK hKK => ?_); go_simp; refine hKK _ ?_; clear hKK KK))
                   refine WS.l (.slice (some ⟨g3, 0, none⟩) na ca) rfl hs1 (by rfl) (fun w0 hSw => ?_) (fun KK hKK => ?_)
                   · (have hq := (HC.out w0 hSw).2.1; clear hs0 hs1 hs2 hcv hcv2; go_simp; try rfl)
                   go_simp
                   refine hKK _ ?_
                   clear hKK KK
                   repeat (first | (refine WS_w rfl hs1 (by rfl) (fun KK hKK => ?_); go_simp; refine hKK _ ?_; clear hKK KK) | (refine WS.s rfl hs1 (by rfl) (fun KK hKK => ?_); go_simp; refine hKK _ ?_; clear hKK KK))
                   refine WS.l (.slice (some ⟨g3, 0, none⟩) na ca) rfl hs1 (by rfl) (fun w0 hSw => ?_) (fun KK hKK => ?_)
                   · (have hq := (HC.out w0 hSw).2.1; clear hs0 hs1 hs2 hcv hcv2; go_simp; try rfl)
                   go_simp
                   refine hKK _ ?_
                   clear hKK KK
                   repeat (first | (refine WS_w rfl hs1 (by rfl) (fun KK hKK => ?_); go_simp; refine hKK _ ?_; clear hKK KK) | (refine WS.s rfl hs1 (by rfl) (fun KK hKK => ?_); go_simp; refine hKK _ ?_; clear hKK KK))
                   refine WS.l (.string (strOfNums [(i : Int)])) rfl hs1 (by rfl) (fun w0 hSw => ?_) (fun KK hKK => ?_)
                   · (have hq := HJA.out w0 hSw; clear hs0 hs1 hs2 hcv hcv2; go_simp; try rfl)
                   go_simp
                   refine hKK _ ?_
                   clear hKK KK
                   repeat (first | (refine WS_w rfl hs1 (by rfl) (fun KK hKK => ?_); go_simp; refine hKK _ ?_; clear hKK KK) | (refine WS.s rfl hs1 (by rfl) (fun KK hKK => ?_); go_simp; refine hKK _ ?_; clear hKK KK))
                   refine WS_c rfl (by rfl) (fun KK hKK => ?_)
                   go_simp
                   rw [← HV2.out]
                   refine hKK.out _ _ hs2 ?_
                   clear hKK KK
                   refine WS_c rfl (by rfl) (fun KK hKK => ?_)
                   go_simp
                   refine hKK.out _ _ hs2 ?_
                   clear hKK KK
                   repeat (first | (refine WS_w rfl hs2 (by rfl) (fun KK hKK => ?_); go_simp; refine hKK _ ?_; clear hKK KK) | (refine WS.s rfl hs2 (by rfl) (fun KK hKK => ?_); go_simp; refine hKK _ ?_; clear hKK KK))
                   have HBF := Aside0.mk hs2
                   clear hs2 hcv2
                   refine WS.nil ?_
                   clear hs0 hs1 hcv
                   go_wp2_with (fail)
                   go_roundg k2
                   case measure => exact Nat.lt_succ_self _
                   case rel => exact ⟨j + 1, by first | rfl | (rw [u5]; rfl), HJ2, HBF⟩
                 · have e1 : decide ((j : Int) < (na : Int)) = false := decide_eq_false (fun h => hja (Int.ofNat_lt.mp h))
                   have e2 : decide (j < na) = false := decide_eq_false hja
                   clear hja
                   refine region_ws ((0, false) :: (1, false) :: (2, false) :: (3, false) :: (4, false) :: (5, false) :: (6, false) :: (7, false) :: (8, false) :: (9, true) :: (10, true) :: (11, false) :: (12, false) :: (13, false) :: (14, false) :: (15, false) :: (16, false) :: (17, false) :: (18, false) :: (19, false) :: (20, false) :: (21, false) :: (22, false) :: (23, false) :: (24, false) :: (25, false) :: (26, false) :: (27, false) :: (28, false) :: (29, false) :: (30, false) :: (31, false) :: (32, false) :: (33, false) :: (34, false) :: []) (fun w' => Below wz.heap.size wz w') (by kernel_rfl) (by kernel_rfl) (fun _ d _ _ _ h => by cases d <;> exact h) ?_
                   rw [← hv0]
                   clear hv0
                   repeat (first | (refine WS_w rfl hs0 (by rfl) (fun KK hKK => ?_); go_simp; refine hKK _ ?_; clear hKK KK) | (refine WS.s rfl hs0 (by rfl) (fun KK hKK => ?_); go_simp; refine hKK _ ?_; clear hKK KK))
                   refine WS.l (.slice (some ⟨g2, 0, none⟩) n2 cg) rfl hs0 (by rfl) (fun w0 hSw => ?_) (fun KK hKK => ?_)
                   · (have hq := (HC.out w0 hSw).1; clear hs0 hs1 hcv; go_simp; try rfl)
                   go_simp
                   refine hKK _ ?_
                   clear hKK KK
                   repeat (first | (refine WS_w rfl hs0 (by rfl) (fun KK hKK => ?_); go_simp; refine hKK _ ?_; clear hKK KK) | (refine WS.s rfl hs0 (by rfl) (fun KK hKK => ?_); go_simp; refine hKK _ ?_; clear hKK KK))
                   refine WS.l (.string (strOfNums [(i : Int)])) rfl hs0 (by rfl) (fun w0 hSw => ?_) (fun KK hKK => ?_)
                   · (have hq := (HC.out w0 hSw).2.2.1 j HJL.out; clear hs0 hs1 hcv; go_simp; try rfl)
                   go_simp
                   refine hKK _ ?_
                   clear hKK KK
                   repeat (first | (refine WS_w rfl hs0 (by rfl) (fun KK hKK => ?_); go_simp; refine hKK _ ?_; clear hKK KK) | (refine WS.s rfl hs0 (by rfl) (fun KK hKK => ?_); go_simp; refine hKK _ ?_; clear hKK KK))
                   refine WS_c rfl (by rfl) (fun KK hKK => ?_)
                   go_simp
                   rw [← HV1.out]
                   refine hKK.out _ _ hs1 ?_
                   clear hKK KK
                   refine WS_c rfl (by rfl) (fun KK hKK => ?_)
                   go_simp
                   refine hKK.out _ _ hs1 ?_
                   clear hKK KK
                   repeat (first | (refine WS_w rfl hs1 (by rfl) (fun KK hKK => ?_); go_simp; refine hKK _ ?_; clear hKK KK) | (refine WS.s rfl hs1 (by rfl) (fun KK hKK => ?_); go_simp; refine hKK _ ?_; clear hKK KK))
                   refine WS.l (.slice (ba.map fun b => (⟨b, 0, none⟩ : Addr)) na ca) rfl hs1 (by rfl) (fun w0 hSw => ?_) (fun KK hKK => ?_)
                   · (have hq := (HC.out w0 hSw).2.1; clear hs0 hs1 hcv; go_simp; try rfl)
                   go_simp
                   refine hKK _ ?_
                   clear hKK KK
                   repeat (first | (refine WS_w rfl hs1 (by rfl) (fun KK hKK => ?_); go_simp; refine hKK _ ?_; clear hKK KK) | (refine WS.s rfl hs1 (by rfl) (fun KK hKK => ?_); go_simp; refine hKK _ ?_; clear hKK KK))
                   have HBF := Aside0.mk hs1
                   refine WS.nil ?_
                   clear hs0 hs1 hcv
                   go_wp2_with (fail)
                   go_roundg k2
                   case measure => exact Nat.lt_succ_self _
                   case rel => exact ⟨j + 1, by first | rfl | (rw [u5]; rfl), HJ2, HBF⟩
            | succ k1 =>
             have HJ := Aside0.mk (show j + 1 + k1 = 60 from by have := HI.out; omega)
             have hlt : decide ((j : Int) < 60) = true := decide_eq_true (by have := HI.out; omega)
             have hlt' : decide (j < 60) = true := decide_eq_true (by have := HI.out; omega)
             have u3 : wrap64 ((j : Int) + 1) = (j : Int) + 1 := MB.wrap64_in _ (by omega) (by have := HI.out; omega)
             have HXI := Aside0.mk (show (∀ s, s < 0 → xx s = j + 1) ∧ (∀ s, 0 ≤ s → s < 4 → xx s = j) from ⟨fun s hs => absurd hs (Nat.not_lt_zero _), fun s _ hs => HXX.out s hs⟩)
             clear HXX
             go_wp2_with (fail)
             go_loopg [28] 4 (fun kq q28 w' => ∃ (i : Nat) (col : Nat → Nat) (vs : List H) (xx : Nat → Nat), q28 = .int .i64 (i : Int) ∧ Aside0 (i + kq = 4) ∧ Aside0 (Al w w' col (.slice (some ⟨g, 0, none⟩) N cap) Lx (.slice Aq Lw.length cq) Lw K ha ((n + 1 : Nat) : Int) L1 hq ((n + 1 : Nat) : Int) L1 [] []) ∧ Aside0 (kH.R 25 w' 0 (fun j => col j = 5) (.slice (some ⟨gz, 0, none⟩) 4 4) hs) ∧ Aside0 (kH.R 25 w' 0 (fun j => col j = 6) (.slice (some ⟨gy, 0, none⟩) 4 4) vs) ∧ Aside0 (Fs Kd.string 9 w' col 10 hs vs mk (fun t => [Value.string (mk t)]) xx) ∧ Aside0 ((∀ s, s < i → xx s = j + 1) ∧ (∀ s, i ≤ s → s < 4 → xx s = j)))
             case atStart => exact ⟨0, col, vs, xx, by rfl, ⟨by decide⟩, HA, HAR, HGR, HFS, HXI⟩
             case round =>
              obtain ⟨i, col, vs, xx, rfl, HI, HA, HAR, HGR, HFS, HXI⟩ := hrel
              cases gk with
              | zero =>
               have hi4 := HI.out
               have hlt2 : decide ((i : Int) < 4) = false := decide_eq_false (by clear u3; omega)
               have hlt3 : decide (i < 4) = false := decide_eq_false (by clear u3; omega)
               have HX2 := Aside0.mk (show ∀ s, s < 4 → xx s = j + 1 from fun s hs => HXI.out.1 s (by clear u3; omega))
               clear hi4
               go_wp2_with (fail)
               go_roundg k1
               case measure => exact Nat.lt_succ_self _
               case rel => exact ⟨j + 1, col, vs, xx, by first | rfl | (rw [u3]; rfl), HJ, HA, HAR, HGR, HFS, HX2⟩
              | succ k2 =>
               have hil : i < 4 := by have h1 := HI.out; clear u3; omega
               have HIL := Aside0.mk hil
               have HJ2 := Aside0.mk (show i + 1 + k2 = 4 from by have h1 := HI.out; clear u3; omega)
               have hlt2 : decide ((i : Int) < 4) = true := decide_eq_true (by clear u3; omega)
               have hlt3 : decide (i < 4) = true := decide_eq_true hil
               have p1 : (0 : Int) ≤ (i : Int) := Int.natCast_nonneg _
               have p2 : (i : Int) < 4 := by clear u3; omega
               have u5 : wrap64 ((i : Int) + 1) = (i : Int) + 1 := by clear u3; exact MB.wrap64_in _ (by omega) (by omega)
               have u1 : IntKind.u8.wrap (i : Int) = (i : Int) := u8_small i (Nat.lt_of_lt_of_le hil (by decide))
               obtain ⟨h1, hh⟩ : ∃ h1, hs[i]? = some h1 := ⟨_, List.getElem?_eq_getElem (by rw [HHL.out]; exact hil)⟩
               have HH := Aside0.mk hh
               have HN1 := Aside0.mk (HHN.out i h1 hh)
               obtain ⟨v, hv⟩ : ∃ v, vs[i]? = some v := ⟨_, List.getElem?_eq_getElem (by rw [HFS.out.len, HHL.out]; exact hil)⟩
               have HVI := Aside0.mk hv
               have HXJ := Aside0.mk (show xx i = j from HXI.out.2 i (Nat.le_refl _) hil)
               have HXR := Aside0.mk (show (∀ s, s < i → xx s = j + 1) ∧ (∀ s, i < s → s < 4 → xx s = j) from ⟨HXI.out.1, fun s hs h4 => HXI.out.2 s (Nat.le_of_lt hs) h4⟩)
               have HGC := Aside0.mk (show ∀ (w' : World) (col : Nat → Nat), kH.R 25 w' 0 (fun j => col j = 6) (.slice (some ⟨gy, 0, none⟩) 4 4) vs → w'.cell? ⟨gy, i, none⟩ = some v.val from fun w' col hb => by
                 obtain ⟨ad, e, h2⟩ := at_H (Kd.R_reads' hb).2.2 i v hv
                 cases e
                 rw [add0] at h2; exact h2)
               obtain ⟨bv, nv, cv⟩ := v
               clear hh hv hil HXI
               go_wp2_with (fail)
               obtain ⟨v0, hv0⟩ : ∃ x, x = wr.drew := ⟨_, rfl⟩
               have hbd : Below wr.heap.size wr v0 := by rw [hv0]; exact below_drew (Below.refl _ _)
               have hs0 : v0.cell? ⟨gy, i, none⟩ = some (.slice (bv.map fun b => (⟨b, 0, none⟩ : Addr)) nv cv) := HGC.out _ _ (Kd.R_below HGR.out hbd)
               have hba := below_alloc (Below.refl _ v0) (.cells #[.int .u8 (i : Int)] 5)
               have hcv := byte_str v0 (i : Int)
               obtain ⟨v1, hv1⟩ : ∃ x, x = v0.alloc (.cells #[.int .u8 (i : Int)] 5) := ⟨_, rfl⟩
               have HVE := Aside0.mk hv1
               rw [← hv1] at hcv hba
               have hb01 := below_weaken hbd hbd.size hba
               have HA1 := Aside0.mk (HA.out.below hb01)
               have HAR1 := Aside0.mk (Kd.R_below HAR.out hb01)
               have HGR1 := Aside0.mk (Kd.R_below HGR.out hb01)
               have HFS1 := Aside0.mk (HFS.out.below hb01)
               have hs1 : v1.cell? ⟨gy, i, none⟩ = some (.slice (bv.map fun b => (⟨b, 0, none⟩ : Addr)) nv cv) := HGC.out _ _ HGR1.out
               have hs2 : (v1.alloc (.cells #[.string (strOfNums [(i : Int)])] 9)).cell? ⟨gy, i, none⟩ = some (.slice (bv.map fun b => (⟨b, 0, none⟩ : Addr)) nv cv) := HGC.out _ _ (Kd.R_below HGR1.out (below_alloc (Below.refl _ v1) _))
               have hfam := HFS1.out.fam i h1 _ HH.out HVI.out
               rw [HXJ.out] at hfam
               have HFM := Aside0.mk hfam
               have HLL := Aside0.mk (show ((List.replicate (h1.n + j) (mk i)).length + 1) * 16 ≤ 140737488355328 from by rw [List.length_replicate]; have h1 := HN1.out; have h2 := HJ.out; clear u3 u5 u1; omega)
               clear hv1 hb01 hba hbd hfam HA HAR HGR HFS
               refine region_wt (.y 0 (.y 1 (.y 2 (.y 3 (.y 4 (.y 6 (.y 7 (.two 5 (.c 8 (.c 9 (.c 10 (.c 11 (.y 12 (.c 13 .nil)))))) 8 (.two 5 (.c 9 (.c 10 (.c 11 (.y 12 (.c 13 .nil))))) 9 (.two 5 (.c 10 (.c 11 (.y 12 (.c 13 .nil)))) 10 (.c 5 (.c 11 (.y 12 (.c 13 .nil)))))))))))))) (fun _ => True) (by kernel_rfl) (by kernel_rfl) (fun _ d _ _ _ h => by cases d <;> exact h) ?_
               rw [← hv0]
               clear hv0
               repeat (refine WT.y rfl trivial (by rfl) (fun KK hKK => ?_); go_simp; refine hKK _ ?_; clear hKK KK)
               refine WT.two rfl rfl (by rfl) (by rfl) (fun KK hKK => ?_) (fun KK hKK => ?_)
               · go_simp
                 refine hKK.out _ _ trivial ?_
                 clear hKK KK
                 refine WT.c rfl (by rfl) (fun KK hKK => ?_)
                 go_simp
                 rw [← HVE.out]
                 refine hKK.out _ _ trivial ?_
                 clear hKK KK
                 refine WT.c rfl (by rfl) (fun KK hKK => ?_)
                 go_simp
                 refine hKK.out _ _ trivial ?_
                 clear hKK KK
                 refine WT.c rfl (by rfl) (fun KK hKK => ?_)
                 go_simp
                 refine hKK.out _ _ trivial ?_
                 clear hKK KK
                 refine WT.c rfl (by rfl) (fun KK hKK => ?_)
                 refine oper_append_apart Kd.string (W := v1) (.tmp 216) (.tmp 221) 25 9 (.string ⟨#[]⟩) 16 rfl Try.underlying25 (by kernel_rfl) rfl (by decide) (.slice (bv.map fun b => (⟨b, 0, none⟩ : Addr)) nv cv) (List.replicate (h1.n + j) (mk i)) (mk i) [.string (mk i)] (fun q => col q = 10 + i ∨ v1.heap.size ≤ q) (by first | rfl | (go_simp; done)) (by first | rfl | (go_simp; done)) rfl (fun q hq => .inr hq) (Kd.R_mono HFM.out.row (fun q hq => .inl hq)) HLL.out (by decide) ?_
                 intro x2 v2 hR hg2 ho2
                 obtain ⟨v3, ev3, _⟩ := R_hdr hR
                 subst ev3
                 have HR2 := Aside0.mk hR
                 have HG2 := Aside0.mk hg2
                 have HO2 := Aside0.mk ho2
                 clear hR hg2 ho2
                 obtain ⟨c1, hc1⟩ : ∃ c1, c1 = Ap.coled v1 col (10 + i) := ⟨_, rfl⟩
                 have hco : ∀ q, q < v1.heap.size → c1 q = col q := by rw [hc1]; exact coled_old _ _ _
                 have hrow : ∀ q, (H.mk bv nv cv).val.ownBlock = some q → c1 q = 10 + i := fun q hq => by rw [hco q (Kd.R_lt HFM.out.row q hq)]; exact HFM.out.row.1 q hq
                 have HA2 := Aside0.mk (show Al w v2 c1 (.slice (some ⟨g, 0, none⟩) N cap) Lx (.slice Aq Lw.length cq) Lw K ha ((n + 1 : Nat) : Int) L1 hq ((n + 1 : Nat) : Int) L1 [] [] from by
                   have h := HA1.out.coled (10 + i)
                   rw [← hc1] at h
                   exact h.grown0 HG2.out (fun q hq => by rw [hrow q hq]; exact Nat.le_trans (by decide) (Nat.le_add_right 10 i)))
                 have HAR2 := Aside0.mk (R_other (R_recol HAR1.out hco) HG2.out (fun q hq => by rw [hrow q hq]; exact Nat.ne_of_gt (Nat.lt_of_lt_of_le (by decide) (Nat.le_add_right 10 i))))
                 have hgr2 := R_other (R_recol HGR1.out hco) HG2.out (fun q hq => by rw [hrow q hq]; exact Nat.ne_of_gt (Nat.lt_of_lt_of_le (by decide) (Nat.le_add_right 10 i)))
                 have HFS2 := Aside0.mk (show Fs Kd.string 9 v2 c1 10 hs (vs.set i v3) mk (fun t => [Value.string (mk t)]) (fun s => if s = i then xx s + 1 else xx s) from by
                   rw [hc1]
                   exact HFS1.out.push (fun t w c h => h) HH.out HVI.out (by rw [HXJ.out]; exact HR2.out) HG2.out HO2.out)
                 have HGC1 := Aside0.mk (show c1 gy = 6 from hgr2.1 gy rfl)
                 obtain ⟨hx0, hf0⟩ := Kd.R_celln zH hgr2 (i : Int) p1 p2
                 have hP := Kd.R_putg hgr2 (i : Int) v3
                 rw [Int.toNat_natCast] at hx0 hf0 hP
                 have HP := Aside0.mk hP
                 clear hP hgr2 hc1 hco hrow
                 go_simp
                 refine hKK.out _ _ trivial ?_
                 clear hKK KK
                 repeat (refine WT.y rfl trivial (by rfl) (fun KK hKK => ?_); go_simp; refine hKK _ ?_; clear hKK KK)
                 refine WT.c rfl (by rfl) (fun KK hKK => ?_)
                 obtain ⟨b3, n3, x3⟩ := v3
                 simp only [H.val]
                 go_simp
                 refine hKK.out _ _ trivial ?_
                 clear hKK KK
                 refine WT.nil ?_
                 obtain ⟨v4, hv4⟩ : ∃ x, x = v2.setCell ⟨gy, i, none⟩ (.slice (b3.map fun b => (⟨b, 0, none⟩ : Addr)) n3 x3) := ⟨_, rfl⟩
                 have HP4 := Aside0.mk (show kH.R 25 v4 0 (fun j => c1 j = 6) (.slice (some ⟨gy, 0, none⟩) 4 4) (vs.set i ⟨b3, n3, x3⟩) ∧ v2.grownBy v4 (some gy) from by rw [hv4]; exact HP.out)
                 rw [← hv4]
                 clear hv4 HP hx0 hf0 hs1 hs2 hcv HVE
                 have HA3 := Aside0.mk (HA2.out.grown0 HP4.out.2 (fun q hq => by cases hq; rw [HGC1.out]; decide))
                 have HAR3 := Aside0.mk (R_other HAR2.out HP4.out.2 (fun q hq => by cases hq; rw [HGC1.out]; decide))
                 have HFS3 := Aside0.mk (HFS2.out.grown HP4.out.2 (fun q hq => by cases hq; rw [HGC1.out]; decide))
                 have HXI3 := Aside0.mk (show (∀ s, s < i + 1 → (if s = i then xx s + 1 else xx s) = j + 1) ∧ (∀ s, i + 1 ≤ s → s < 4 → (if s = i then xx s + 1 else xx s) = j) from ⟨fun s hs => by
                   by_cases e : s = i
                   · subst e; rw [if_pos rfl, HXJ.out]
                   · rw [if_neg e]; exact HXR.out.1 s (Nat.lt_of_le_of_ne (Nat.le_of_lt_succ hs) e), fun s hs h4 => by rw [if_neg (Nat.ne_of_gt hs)]; exact HXR.out.2 s hs h4⟩)
                 go_wp2_with (fail)
                 go_roundg k2
                 case measure => exact Nat.lt_succ_self _
                 case rel => exact ⟨i + 1, _, _, _, by first | rfl | (rw [u5]; rfl), HJ2, HA3, HAR3, ⟨HP4.out.1⟩, HFS3, HXI3⟩
               · go_simp
                 rw [← HVE.out]
                 refine hKK.out _ _ trivial ?_
                 clear hKK KK
                 refine WT.two rfl rfl (by rfl) (by rfl) (fun KK hKK => ?_) (fun KK hKK => ?_)
                 · go_simp
                   refine hKK.out _ _ trivial ?_
                   clear hKK KK
                   refine WT.c rfl (by rfl) (fun KK hKK => ?_)
                   go_simp
                   refine hKK.out _ _ trivial ?_
                   clear hKK KK
                   refine WT.c rfl (by rfl) (fun KK hKK => ?_)
                   go_simp
                   refine hKK.out _ _ trivial ?_
                   clear hKK KK
                   refine WT.c rfl (by rfl) (fun KK hKK => ?_)
                   refine oper_append_apart Kd.string (W := v1) (.tmp 216) (.tmp 221) 25 9 (.string ⟨#[]⟩) 16 rfl Try.underlying25 (by kernel_rfl) rfl (by decide) (.slice (bv.map fun b => (⟨b, 0, none⟩ : Addr)) nv cv) (List.replicate (h1.n + j) (mk i)) (mk i) [.string (mk i)] (fun q => col q = 10 + i ∨ v1.heap.size ≤ q) (by first | rfl | (go_simp; done)) (by first | rfl | (go_simp; done)) rfl (fun q hq => .inr hq) (Kd.R_mono HFM.out.row (fun q hq => .inl hq)) HLL.out (by decide) ?_
                   intro x2 v2 hR hg2 ho2
                   obtain ⟨v3, ev3, _⟩ := R_hdr hR
                   subst ev3
                   have HR2 := Aside0.mk hR
                   have HG2 := Aside0.mk hg2
                   have HO2 := Aside0.mk ho2
                   clear hR hg2 ho2
                   obtain ⟨c1, hc1⟩ : ∃ c1, c1 = Ap.coled v1 col (10 + i) := ⟨_, rfl⟩
                   have hco : ∀ q, q < v1.heap.size → c1 q = col q := by rw [hc1]; exact coled_old _ _ _
                   have hrow : ∀ q, (H.mk bv nv cv).val.ownBlock = some q → c1 q = 10 + i := fun q hq => by rw [hco q (Kd.R_lt HFM.out.row q hq)]; exact HFM.out.row.1 q hq
                   have HA2 := Aside0.mk (show Al w v2 c1 (.slice (some ⟨g, 0, none⟩) N cap) Lx (.slice Aq Lw.length cq) Lw K ha ((n + 1 : Nat) : Int) L1 hq ((n + 1 : Nat) : Int) L1 [] [] from by
                     have h := HA1.out.coled (10 + i)
                     rw [← hc1] at h
                     exact h.grown0 HG2.out (fun q hq => by rw [hrow q hq]; exact Nat.le_trans (by decide) (Nat.le_add_right 10 i)))
                   have HAR2 := Aside0.mk (R_other (R_recol HAR1.out hco) HG2.out (fun q hq => by rw [hrow q hq]; exact Nat.ne_of_gt (Nat.lt_of_lt_of_le (by decide) (Nat.le_add_right 10 i))))
                   have hgr2 := R_other (R_recol HGR1.out hco) HG2.out (fun q hq => by rw [hrow q hq]; exact Nat.ne_of_gt (Nat.lt_of_lt_of_le (by decide) (Nat.le_add_right 10 i)))
                   have HFS2 := Aside0.mk (show Fs Kd.string 9 v2 c1 10 hs (vs.set i v3) mk (fun t => [Value.string (mk t)]) (fun s => if s = i then xx s + 1 else xx s) from by
                     rw [hc1]
                     exact HFS1.out.push (fun t w c h => h) HH.out HVI.out (by rw [HXJ.out]; exact HR2.out) HG2.out HO2.out)
                   have HGC1 := Aside0.mk (show c1 gy = 6 from hgr2.1 gy rfl)
                   obtain ⟨hx0, hf0⟩ := Kd.R_celln zH hgr2 (i : Int) p1 p2
                   have hP := Kd.R_putg hgr2 (i : Int) v3
                   rw [Int.toNat_natCast] at hx0 hf0 hP
                   have HP := Aside0.mk hP
                   clear hP hgr2 hc1 hco hrow
                   go_simp
                   refine hKK.out _ _ trivial ?_
                   clear hKK KK
                   repeat (refine WT.y rfl trivial (by rfl) (fun KK hKK => ?_); go_simp; refine hKK _ ?_; clear hKK KK)
                   refine WT.c rfl (by rfl) (fun KK hKK => ?_)
                   obtain ⟨b3, n3, x3⟩ := v3
                   simp only [H.val]
                   go_simp
                   refine hKK.out _ _ trivial ?_
                   clear hKK KK
                   refine WT.nil ?_
                   obtain ⟨v4, hv4⟩ : ∃ x, x = v2.setCell ⟨gy, i, none⟩ (.slice (b3.map fun b => (⟨b, 0, none⟩ : Addr)) n3 x3) := ⟨_, rfl⟩
                   have HP4 := Aside0.mk (show kH.R 25 v4 0 (fun j => c1 j = 6) (.slice (some ⟨gy, 0, none⟩) 4 4) (vs.set i ⟨b3, n3, x3⟩) ∧ v2.grownBy v4 (some gy) from by rw [hv4]; exact HP.out)
                   rw [← hv4]
                   clear hv4 HP hx0 hf0 hs1 hs2 hcv HVE
                   have HA3 := Aside0.mk (HA2.out.grown0 HP4.out.2 (fun q hq => by cases hq; rw [HGC1.out]; decide))
                   have HAR3 := Aside0.mk (R_other HAR2.out HP4.out.2 (fun q hq => by cases hq; rw [HGC1.out]; decide))
                   have HFS3 := Aside0.mk (HFS2.out.grown HP4.out.2 (fun q hq => by cases hq; rw [HGC1.out]; decide))
                   have HXI3 := Aside0.mk (show (∀ s, s < i + 1 → (if s = i then xx s + 1 else xx s) = j + 1) ∧ (∀ s, i + 1 ≤ s → s < 4 → (if s = i then xx s + 1 else xx s) = j) from ⟨fun s hs => by
                     by_cases e : s = i
                     · subst e; rw [if_pos rfl, HXJ.out]
                     · rw [if_neg e]; exact HXR.out.1 s (Nat.lt_of_le_of_ne (Nat.le_of_lt_succ hs) e), fun s hs h4 => by rw [if_neg (Nat.ne_of_gt hs)]; exact HXR.out.2 s hs h4⟩)
                   go_wp2_with (fail)
                   go_roundg k2
                   case measure => exact Nat.lt_succ_self _
                   case rel => exact ⟨i + 1, _, _, _, by first | rfl | (rw [u5]; rfl), HJ2, HA3, HAR3, ⟨HP4.out.1⟩, HFS3, HXI3⟩
                 · go_simp
                   refine hKK.out _ _ trivial ?_
                   clear hKK KK
                   refine WT.two rfl rfl (by rfl) (by rfl) (fun KK hKK => ?_) (fun KK hKK => ?_)
                   · go_simp
                     refine hKK.out _ _ trivial ?_
                     clear hKK KK
                     refine WT.c rfl (by rfl) (fun KK hKK => ?_)
                     go_simp
                     refine hKK.out _ _ trivial ?_
                     clear hKK KK
                     refine WT.c rfl (by rfl) (fun KK hKK => ?_)
                     refine oper_append_apart Kd.string (W := v1) (.tmp 216) (.tmp 221) 25 9 (.string ⟨#[]⟩) 16 rfl Try.underlying25 (by kernel_rfl) rfl (by decide) (.slice (bv.map fun b => (⟨b, 0, none⟩ : Addr)) nv cv) (List.replicate (h1.n + j) (mk i)) (mk i) [.string (mk i)] (fun q => col q = 10 + i ∨ v1.heap.size ≤ q) (by first | rfl | (go_simp; done)) (by first | rfl | (go_simp; done)) rfl (fun q hq => .inr hq) (Kd.R_mono HFM.out.row (fun q hq => .inl hq)) HLL.out (by decide) ?_
                     intro x2 v2 hR hg2 ho2
                     obtain ⟨v3, ev3, _⟩ := R_hdr hR
                     subst ev3
                     have HR2 := Aside0.mk hR
                     have HG2 := Aside0.mk hg2
                     have HO2 := Aside0.mk ho2
                     clear hR hg2 ho2
                     obtain ⟨c1, hc1⟩ : ∃ c1, c1 = Ap.coled v1 col (10 + i) := ⟨_, rfl⟩
                     have hco : ∀ q, q < v1.heap.size → c1 q = col q := by rw [hc1]; exact coled_old _ _ _
                     have hrow : ∀ q, (H.mk bv nv cv).val.ownBlock = some q → c1 q = 10 + i := fun q hq => by rw [hco q (Kd.R_lt HFM.out.row q hq)]; exact HFM.out.row.1 q hq
                     have HA2 := Aside0.mk (show Al w v2 c1 (.slice (some ⟨g, 0, none⟩) N cap) Lx (.slice Aq Lw.length cq) Lw K ha ((n + 1 : Nat) : Int) L1 hq ((n + 1 : Nat) : Int) L1 [] [] from by
                       have h := HA1.out.coled (10 + i)
                       rw [← hc1] at h
                       exact h.grown0 HG2.out (fun q hq => by rw [hrow q hq]; exact Nat.le_trans (by decide) (Nat.le_add_right 10 i)))
                     have HAR2 := Aside0.mk (R_other (R_recol HAR1.out hco) HG2.out (fun q hq => by rw [hrow q hq]; exact Nat.ne_of_gt (Nat.lt_of_lt_of_le (by decide) (Nat.le_add_right 10 i))))
                     have hgr2 := R_other (R_recol HGR1.out hco) HG2.out (fun q hq => by rw [hrow q hq]; exact Nat.ne_of_gt (Nat.lt_of_lt_of_le (by decide) (Nat.le_add_right 10 i)))
                     have HFS2 := Aside0.mk (show Fs Kd.string 9 v2 c1 10 hs (vs.set i v3) mk (fun t => [Value.string (mk t)]) (fun s => if s = i then xx s + 1 else xx s) from by
                       rw [hc1]
                       exact HFS1.out.push (fun t w c h => h) HH.out HVI.out (by rw [HXJ.out]; exact HR2.out) HG2.out HO2.out)
                     have HGC1 := Aside0.mk (show c1 gy = 6 from hgr2.1 gy rfl)
                     obtain ⟨hx0, hf0⟩ := Kd.R_celln zH hgr2 (i : Int) p1 p2
                     have hP := Kd.R_putg hgr2 (i : Int) v3
                     rw [Int.toNat_natCast] at hx0 hf0 hP
                     have HP := Aside0.mk hP
                     clear hP hgr2 hc1 hco hrow
                     go_simp
                     refine hKK.out _ _ trivial ?_
                     clear hKK KK
                     repeat (refine WT.y rfl trivial (by rfl) (fun KK hKK => ?_); go_simp; refine hKK _ ?_; clear hKK KK)
                     refine WT.c rfl (by rfl) (fun KK hKK => ?_)
                     obtain ⟨b3, n3, x3⟩ := v3
                     simp only [H.val]
                     go_simp
                     refine hKK.out _ _ trivial ?_
                     clear hKK KK
                     refine WT.nil ?_
                     obtain ⟨v4, hv4⟩ : ∃ x, x = v2.setCell ⟨gy, i, none⟩ (.slice (b3.map fun b => (⟨b, 0, none⟩ : Addr)) n3 x3) := ⟨_, rfl⟩
                     have HP4 := Aside0.mk (show kH.R 25 v4 0 (fun j => c1 j = 6) (.slice (some ⟨gy, 0, none⟩) 4 4) (vs.set i ⟨b3, n3, x3⟩) ∧ v2.grownBy v4 (some gy) from by rw [hv4]; exact HP.out)
                     rw [← hv4]
                     clear hv4 HP hx0 hf0 hs1 hs2 hcv HVE
                     have HA3 := Aside0.mk (HA2.out.grown0 HP4.out.2 (fun q hq => by cases hq; rw [HGC1.out]; decide))
                     have HAR3 := Aside0.mk (R_other HAR2.out HP4.out.2 (fun q hq => by cases hq; rw [HGC1.out]; decide))
                     have HFS3 := Aside0.mk (HFS2.out.grown HP4.out.2 (fun q hq => by cases hq; rw [HGC1.out]; decide))
                     have HXI3 := Aside0.mk (show (∀ s, s < i + 1 → (if s = i then xx s + 1 else xx s) = j + 1) ∧ (∀ s, i + 1 ≤ s → s < 4 → (if s = i then xx s + 1 else xx s) = j) from ⟨fun s hs => by
                       by_cases e : s = i
                       · subst e; rw [if_pos rfl, HXJ.out]
                       · rw [if_neg e]; exact HXR.out.1 s (Nat.lt_of_le_of_ne (Nat.le_of_lt_succ hs) e), fun s hs h4 => by rw [if_neg (Nat.ne_of_gt hs)]; exact HXR.out.2 s hs h4⟩)
                     go_wp2_with (fail)
                     go_roundg k2
                     case measure => exact Nat.lt_succ_self _
                     case rel => exact ⟨i + 1, _, _, _, by first | rfl | (rw [u5]; rfl), HJ2, HA3, HAR3, ⟨HP4.out.1⟩, HFS3, HXI3⟩
                   · go_simp
                     refine hKK.out _ _ trivial ?_
                     clear hKK KK
                     refine WT.c rfl (by rfl) (fun KK hKK => ?_)
                     go_simp
                     refine hKK.out _ _ trivial ?_
                     clear hKK KK
                     refine WT.c rfl (by rfl) (fun KK hKK => ?_)
                     refine oper_append_apart Kd.string (W := v1) (.tmp 216) (.tmp 221) 25 9 (.string ⟨#[]⟩) 16 rfl Try.underlying25 (by kernel_rfl) rfl (by decide) (.slice (bv.map fun b => (⟨b, 0, none⟩ : Addr)) nv cv) (List.replicate (h1.n + j) (mk i)) (mk i) [.string (mk i)] (fun q => col q = 10 + i ∨ v1.heap.size ≤ q) (by first | rfl | (go_simp; done)) (by first | rfl | (go_simp; done)) rfl (fun q hq => .inr hq) (Kd.R_mono HFM.out.row (fun q hq => .inl hq)) HLL.out (by decide) ?_
                     intro x2 v2 hR hg2 ho2
                     obtain ⟨v3, ev3, _⟩ := R_hdr hR
                     subst ev3
                     have HR2 := Aside0.mk hR
                     have HG2 := Aside0.mk hg2
                     have HO2 := Aside0.mk ho2
                     clear hR hg2 ho2
                     obtain ⟨c1, hc1⟩ : ∃ c1, c1 = Ap.coled v1 col (10 + i) := ⟨_, rfl⟩
                     have hco : ∀ q, q < v1.heap.size → c1 q = col q := by rw [hc1]; exact coled_old _ _ _
                     have hrow : ∀ q, (H.mk bv nv cv).val.ownBlock = some q → c1 q = 10 + i := fun q hq => by rw [hco q (Kd.R_lt HFM.out.row q hq)]; exact HFM.out.row.1 q hq
                     have HA2 := Aside0.mk (show Al w v2 c1 (.slice (some ⟨g, 0, none⟩) N cap) Lx (.slice Aq Lw.length cq) Lw K ha ((n + 1 : Nat) : Int) L1 hq ((n + 1 : Nat) : Int) L1 [] [] from by
                       have h := HA1.out.coled (10 + i)
                       rw [← hc1] at h
                       exact h.grown0 HG2.out (fun q hq => by rw [hrow q hq]; exact Nat.le_trans (by decide) (Nat.le_add_right 10 i)))
                     have HAR2 := Aside0.mk (R_other (R_recol HAR1.out hco) HG2.out (fun q hq => by rw [hrow q hq]; exact Nat.ne_of_gt (Nat.lt_of_lt_of_le (by decide) (Nat.le_add_right 10 i))))
                     have hgr2 := R_other (R_recol HGR1.out hco) HG2.out (fun q hq => by rw [hrow q hq]; exact Nat.ne_of_gt (Nat.lt_of_lt_of_le (by decide) (Nat.le_add_right 10 i)))
                     have HFS2 := Aside0.mk (show Fs Kd.string 9 v2 c1 10 hs (vs.set i v3) mk (fun t => [Value.string (mk t)]) (fun s => if s = i then xx s + 1 else xx s) from by
                       rw [hc1]
                       exact HFS1.out.push (fun t w c h => h) HH.out HVI.out (by rw [HXJ.out]; exact HR2.out) HG2.out HO2.out)
                     have HGC1 := Aside0.mk (show c1 gy = 6 from hgr2.1 gy rfl)
                     obtain ⟨hx0, hf0⟩ := Kd.R_celln zH hgr2 (i : Int) p1 p2
                     have hP := Kd.R_putg hgr2 (i : Int) v3
                     rw [Int.toNat_natCast] at hx0 hf0 hP
                     have HP := Aside0.mk hP
                     clear hP hgr2 hc1 hco hrow
                     go_simp
                     refine hKK.out _ _ trivial ?_
                     clear hKK KK
                     repeat (refine WT.y rfl trivial (by rfl) (fun KK hKK => ?_); go_simp; refine hKK _ ?_; clear hKK KK)
                     refine WT.c rfl (by rfl) (fun KK hKK => ?_)
                     obtain ⟨b3, n3, x3⟩ := v3
                     simp only [H.val]
                     go_simp
                     refine hKK.out _ _ trivial ?_
                     clear hKK KK
                     refine WT.nil ?_
                     obtain ⟨v4, hv4⟩ : ∃ x, x = v2.setCell ⟨gy, i, none⟩ (.slice (b3.map fun b => (⟨b, 0, none⟩ : Addr)) n3 x3) := ⟨_, rfl⟩
                     have HP4 := Aside0.mk (show kH.R 25 v4 0 (fun j => c1 j = 6) (.slice (some ⟨gy, 0, none⟩) 4 4) (vs.set i ⟨b3, n3, x3⟩) ∧ v2.grownBy v4 (some gy) from by rw [hv4]; exact HP.out)
                     rw [← hv4]
                     clear hv4 HP hx0 hf0 hs1 hs2 hcv HVE
                     have HA3 := Aside0.mk (HA2.out.grown0 HP4.out.2 (fun q hq => by cases hq; rw [HGC1.out]; decide))
                     have HAR3 := Aside0.mk (R_other HAR2.out HP4.out.2 (fun q hq => by cases hq; rw [HGC1.out]; decide))
                     have HFS3 := Aside0.mk (HFS2.out.grown HP4.out.2 (fun q hq => by cases hq; rw [HGC1.out]; decide))
                     have HXI3 := Aside0.mk (show (∀ s, s < i + 1 → (if s = i then xx s + 1 else xx s) = j + 1) ∧ (∀ s, i + 1 ≤ s → s < 4 → (if s = i then xx s + 1 else xx s) = j) from ⟨fun s hs => by
                       by_cases e : s = i
                       · subst e; rw [if_pos rfl, HXJ.out]
                       · rw [if_neg e]; exact HXR.out.1 s (Nat.lt_of_le_of_ne (Nat.le_of_lt_succ hs) e), fun s hs h4 => by rw [if_neg (Nat.ne_of_gt hs)]; exact HXR.out.2 s hs h4⟩)
                     go_wp2_with (fail)
                     go_roundg k2
                     case measure => exact Nat.lt_succ_self _
                     case rel => exact ⟨i + 1, _, _, _, by first | rfl | (rw [u5]; rfl), HJ2, HA3, HAR3, ⟨HP4.out.1⟩, HFS3, HXI3⟩
          | succ k1 =>
           have hil : i < 4 := by have := HI.out; omega
           have HIL := Aside0.mk hil
           have HJ := Aside0.mk (show i + 1 + k1 = 4 from by have := HI.out; omega)
           have hlt : decide ((i : Int) < 4) = true := decide_eq_true (by omega)
           have hlt' : decide (i < 4) = true := decide_eq_true hil
           have p1 : (0 : Int) ≤ (i : Int) := by omega
           have p2 : (i : Int) < 4 := by omega
           have b3 : -9223372036854775808 ≤ (i : Int) + 1 ∧ (i : Int) + 1 ≤ 9223372036854775807 := by omega
           obtain ⟨h1, hh⟩ : ∃ h1, hs[i]? = some h1 := ⟨_, List.getElem?_eq_getElem (by have := HHL.out; omega)⟩
           have HH := Aside0.mk hh
           have hn9 := HHN.out i h1 hh
           have HGG := Aside0.mk (show 0 < h1.n → ∃ g, h1.blk = some g ∧ c7 g = 10 + i from fun h0 => by
             obtain ⟨X, hX⟩ : ∃ X, Xs[i]? = some X := ⟨_, List.getElem?_eq_getElem (by rw [HAL.out.d.len]; exact (List.getElem?_eq_some_iff.1 hh).1)⟩
             obtain ⟨g, g1, g2, _⟩ := HAL.out.d.blk i h1 X hh hX h0
             exact ⟨g, g1, g2⟩)
           have HAC := Aside0.mk (show ∀ w', kH.R 25 w' 0 (fun j => c7 j = 5) (.slice (some ⟨gz, 0, none⟩) 4 4) hs → w'.cell? ⟨gz, i, none⟩ = some h1.val from fun w' hb => by
             obtain ⟨ad, e, h2⟩ := at_H (Kd.R_reads' hb).2.2 i h1 hh
             cases e
             rw [add0] at h2; exact h2)
           obtain ⟨gb, n1, cp⟩ := h1
           have HN1 := Aside0.mk (show n1 ≤ 900 from hn9)
           have u3 : wrap64 ((i : Int) + 1) = (i : Int) + 1 := MB.wrap64_in _ b3.1 b3.2
           clear hh hn9 hil b3
           go_wp2_with (fail)
           have HMJ := Aside0.mk (show ∀ X, Xs[i]? = some X → ∀ p, p < 0 → X[p]? = some (mk i) from fun X _ p hp => absurd hp (Nat.not_lt_zero _))
           go_loopg [25] n1 (fun kq q25 w' => ∃ (j : Nat) (Xs : List (List ByteArray)), q25 = .int .i64 (j : Int) ∧ Aside0 (j + kq = n1) ∧ Aside0 (Al w w' c7 (.slice (some ⟨g, 0, none⟩) N cap) Lx (.slice Aq Lw.length cq) Lw K ha ((n + 1 : Nat) : Int) L1 hq ((n + 1 : Nat) : Int) L1 hs Xs) ∧ Aside0 (kH.R 25 w' 0 (fun j => c7 j = 5) (.slice (some ⟨gz, 0, none⟩) 4 4) hs) ∧ Aside0 (∀ t X, t < i → Xs[t]? = some X → X = List.replicate X.length (mk t)) ∧ Aside0 (∀ X, Xs[i]? = some X → ∀ p, p < j → X[p]? = some (mk i)))
           case atStart => exact ⟨0, Xs, by rfl, ⟨Nat.zero_add _⟩, HAL, HAR, HMK, HMJ⟩
           case round =>
            obtain ⟨j, Xs, rfl, HI, HAL, HAR, HMK, HMJ⟩ := hrel
            cases gk with
            | zero =>
             have hjn := HI.out
             have hlt2 : decide ((j : Int) < (n1 : Int)) = false := decide_eq_false (fun h => Nat.lt_irrefl _ (Nat.lt_of_lt_of_eq (Int.ofNat_lt.mp h) hjn.symm))
             have hlt3 : decide (j < n1) = false := decide_eq_false (fun h => Nat.lt_irrefl _ (Nat.lt_of_lt_of_eq h hjn.symm))
             have hcc : wr.cell? ⟨gz, i, none⟩ = some (.slice (gb.map fun b => (⟨b, 0, none⟩ : Addr)) n1 cp) := HAC.out _ HAR.out
             have HJN := Aside0.mk (show j = n1 from hjn)
             clear hjn
             go_wp2_with (fail)
             go_roundg k1
             case measure => exact Nat.lt_succ_self _
             case rel => exact ⟨i + 1, Xs, by first | rfl | (rw [u3]; rfl), HJ, HAL, HAR, ⟨fun t X ht hX => by
               by_cases e : t = i
               · subst e
                 have hl := HAL.out.d.lens t _ X HH.out hX
                 refine List.eq_replicate_iff.2 ⟨rfl, fun z hz => ?_⟩
                 obtain ⟨p, hp, rfl⟩ := List.getElem_of_mem hz
                 have h2 := HMJ.out X hX p (Nat.lt_of_lt_of_eq hp (hl.symm.trans HJN.out.symm))
                 rw [List.getElem?_eq_getElem hp] at h2; exact Option.some.inj h2
               · exact HMK.out t X (Nat.lt_of_le_of_ne (Nat.le_of_lt_succ ht) e) hX⟩⟩
            | succ k2 =>
             have hjl : j < n1 := by have h1 := HI.out; clear u3; omega
             have HJ2 := Aside0.mk (show j + 1 + k2 = n1 from by have h1 := HI.out; clear u3; omega)
             have hlt2 : decide ((j : Int) < (n1 : Int)) = true := decide_eq_true (Int.ofNat_lt.mpr hjl)
             have hlt3 : decide (j < n1) = true := decide_eq_true hjl
             obtain ⟨g1, eg, cg⟩ := HGG.out (Nat.lt_of_le_of_lt (Nat.zero_le _) hjl)
             have eg2 : gb = some g1 := eg
             subst eg2
             have HCG := Aside0.mk cg
             have hcc : wr.cell? ⟨gz, i, none⟩ = some (.slice (some ⟨g1, 0, none⟩) n1 cp) := HAC.out _ HAR.out
             have p3 : (0 : Int) ≤ (j : Int) := Int.natCast_nonneg _
             have p4 : (j : Int) < (n1 : Int) := Int.ofNat_lt.mpr hjl
             have u5 : wrap64 ((j : Int) + 1) = (j : Int) + 1 := by
               have h2 := HN1.out
               clear u3
               exact MB.wrap64_in _ (by omega) (by omega)
             have u1 : IntKind.u8.wrap (i : Int) = (i : Int) := u8_small i (Nat.lt_of_lt_of_le HIL.out (by decide))
             obtain ⟨X, hX⟩ : ∃ X, Xs[i]? = some X := ⟨_, List.getElem?_eq_getElem (by rw [HAL.out.d.len]; exact (List.getElem?_eq_some_iff.1 HH.out).1)⟩
             have HX := Aside0.mk hX
             have hlX : n1 = X.length := HAL.out.d.lens i _ X HH.out hX
             have HJX := Aside0.mk (show j < X.length from hlX ▸ hjl)
             clear eg cg hjl hX hlX
             go_wp2_with (fail)
             clear hcc
             obtain ⟨v0, hv0⟩ : ∃ x, x = wr.drew := ⟨_, rfl⟩
             have hbd : Below wr.heap.size wr v0 := by rw [hv0]; exact below_drew (Below.refl _ _)
             have hal0 := HAL.out.below hbd
             have har0 := Kd.R_below HAR.out hbd
             have hba := below_alloc (Below.refl _ v0) (.cells #[.int .u8 (i : Int)] 5)
             have HAL1 := Aside0.mk (hal0.below hba)
             have HAR1 := Aside0.mk (Kd.R_below har0 hba)
             have hs0 : (fun w' => w'.cell? ⟨gz, i, none⟩ = some (.slice (some ⟨g1, 0, none⟩) n1 cp)) v0 := HAC.out _ har0
             have hcv := byte_str v0 (i : Int)
             obtain ⟨v1, hv1⟩ : ∃ x, x = v0.alloc (.cells #[.int .u8 (i : Int)] 5) := ⟨_, rfl⟩
             rw [← hv1] at HAL1 HAR1 hcv
             have hs1 : (fun w' => w'.cell? ⟨gz, i, none⟩ = some (.slice (some ⟨g1, 0, none⟩) n1 cp)) v1 := HAC.out _ HAR1.out
             have hR : Kd.string.R 9 v1 0 (fun j => c7 j = 10 + i) (.slice (some ⟨g1, 0, none⟩) n1 cp) X := HAL1.out.d.row i _ X HH.out HX.out
             obtain ⟨hx0, hf0⟩ := Kd.R_celln ByteArray.empty hR (j : Int) p3 p4
             have hP := Kd.R_putg hR (j : Int) (strOfNums [(i : Int)])
             rw [Int.toNat_natCast] at hx0 hf0 hP
             have HP := Aside0.mk hP
             have HV1 := Aside0.mk hv1
             have HZ1 := Aside0.mk (show v0.heap.size = v0.heap.size from rfl)
             clear hR hP hbd hal0 har0 hba hv1
             refine region_ws ((0, false) :: (1, false) :: (2, false) :: (3, false) :: (4, false) :: (5, false) :: (6, false) :: (7, true) :: (8, true) :: (9, false) :: (10, true) :: []) (fun w' => w'.cell? ⟨gz, i, none⟩ = some (.slice (some ⟨g1, 0, none⟩) n1 cp)) (by kernel_rfl) (by kernel_rfl) (fun _ d _ _ _ h => by cases d <;> exact h) ?_
             rw [← hv0]
             clear hv0
             repeat (first | (refine WS_w rfl hs0 (by rfl) (fun KK hKK => ?_); go_simp; refine hKK _ ?_; clear hKK KK) | (refine WS.s rfl hs0 (by rfl) (fun KK hKK => ?_); go_simp; refine hKK _ ?_; clear hKK KK))
             refine WS.l (.slice (some ⟨g1, 0, none⟩) n1 cp) rfl hs0 (by rfl) (fun w0 hSw => ?_) (fun KK hKK => ?_)
             · (clear hs0 hs1; go_simp; try rfl)
             go_simp
             refine hKK _ ?_
             clear hKK KK
             repeat (first | (refine WS_w rfl hs0 (by rfl) (fun KK hKK => ?_); go_simp; refine hKK _ ?_; clear hKK KK) | (refine WS.s rfl hs0 (by rfl) (fun KK hKK => ?_); go_simp; refine hKK _ ?_; clear hKK KK))
             refine WS_c rfl (by rfl) (fun KK hKK => ?_)
             go_simp
             rw [← HV1.out]
             refine hKK.out _ _ hs1 ?_
             clear hKK KK
             refine WS_c rfl (by rfl) (fun KK hKK => ?_)
             go_simp
             refine hKK.out _ _ hs1 ?_
             clear hKK KK
             repeat (first | (refine WS_w rfl hs1 (by rfl) (fun KK hKK => ?_); go_simp; refine hKK _ ?_; clear hKK KK) | (refine WS.s rfl hs1 (by rfl) (fun KK hKK => ?_); go_simp; refine hKK _ ?_; clear hKK KK))
             refine WS_c rfl (by rfl) (fun KK hKK => ?_)
             go_simp
             have HAL2 := Aside0.mk (HAL1.out.put HH.out HX.out HP.out.2 (fun q hq => by cases hq; exact HCG.out) HP.out.1)
             have HAR2 := Aside0.mk (R_other HAR1.out HP.out.2 (fun q hq => by cases hq; rw [HCG.out]; exact Nat.ne_of_gt (Nat.lt_of_lt_of_le (by decide) (Nat.le_add_right 10 i))))
             have hs2 := HAC.out _ HAR2.out
             refine hKK.out _ _ hs2 ?_
             clear hKK KK
             refine WS.nil ?_
             clear hs0 hs1 hs2 hcv hx0 hf0
             go_wp2_with (fail)
             go_roundg k2
             case measure => exact Nat.lt_succ_self _
             case rel => exact ⟨j + 1, _, by first | rfl | (rw [u5]; rfl), HJ2, HAL2, HAR2, ⟨fun t X' ht hX' => by
               rw [List.getElem?_set_ne (Nat.ne_of_gt ht)] at hX'
               exact HMK.out t X' ht hX'⟩, ⟨fun X' hX' p hp => by
               rw [List.getElem?_set_self (by exact (List.getElem?_eq_some_iff.1 HX.out).1)] at hX'
               cases hX'
               by_cases e : j = p
               · subst e
                 rw [List.getElem?_set_self HJX.out]; rfl
               · rw [List.getElem?_set_ne e]; exact HMJ.out X HX.out p (Nat.lt_of_le_of_ne (Nat.le_of_lt_succ hp) (fun h => e h.symm))⟩⟩
        | succ k1 =>
         have hil : i < N := by have := HI.out; omega
         have HJ := Aside0.mk (show i + 1 + k1 = N from by have := HI.out; omega)
         have hlt : decide ((i : Int) < (N : Int)) = true := decide_eq_true (by omega)
         have hlt' : decide (i < N) = true := decide_eq_true hil
         have p1 : (0 : Int) ≤ (i : Int) := by omega
         have p2 : (i : Int) < (N : Int) := by omega
         have b3 : -9223372036854775808 ≤ (i : Int) + 1 ∧ (i : Int) + 1 ≤ 9223372036854775807 := by have h1 := HNM.out; have h2 := HML.out; omega
         have HIL := Aside0.mk (show i < Lx.length from by have := HLX.out.1; omega)
         have HGC := Aside0.mk (show c2 g = 1 from HBP.out.wide.1 g rfl)
         obtain ⟨hx0, hf0⟩ := Kd.R_celln ByteArray.empty HBP.out.wide (i : Int) p1 p2
         rw [Int.toNat_natCast] at hx0
         clear hf0
         have hX : rdOf ByteArray.empty Lx (i : Int) = ((rooms Lw 30)[i]?).getD ByteArray.empty := by
           unfold rdOf
           rw [Int.toNat_natCast, List.getD_eq_getElem?_getD, HLX.out.2 i (Nat.le_refl _)]
         rw [hX] at hx0
         have HL2 := Aside0.mk (show ∀ z : ByteArray, (Lx.set i z).length = N ∧ ∀ p, i + 1 ≤ p → (Lx.set i z)[p]? = (rooms Lw 30)[p]? from fun z => ⟨by rw [List.length_set]; exact HLX.out.1, fun p hp => by rw [List.getElem?_set_ne (Nat.ne_of_lt hp)]; exact HLX.out.2 p (Nat.le_of_succ_le hp)⟩)
         by_cases him : i < m
         · have d1 : decide ((i : Int) < (m : Int)) = true := decide_eq_true (Int.ofNat_lt.mpr him)
           have d2 : decide (i < m) = true := decide_eq_true him
           have d3 : decide ((m : Int) ≤ (i : Int)) = false := decide_eq_false (by omega)
           have d4 : decide (m ≤ i) = false := decide_eq_false (by omega)
           have p3 : (i : Int) < (Lw.length : Int) := by have := HM.out; omega
           have hiw : i < Lw.length := by have := HM.out; omega
           obtain ⟨aw, eA, hcw⟩ := Kd.at_string (Kd.R_reads' HBP.out.was).2.2 (i : Int) p1 p3
           subst eA
           obtain ⟨X, hXX⟩ : ∃ X, X = Lw[i] := ⟨_, rfl⟩
           rw [show ((rooms Lw 30)[i]?).getD ByteArray.empty = X from by unfold rooms; rw [List.getElem?_append_left hiw, List.getElem?_eq_getElem hiw, hXX]; rfl] at hx0
           rw [Int.toNat_natCast, show rdOf ByteArray.empty Lw (i : Int) = X from by unfold rdOf; rw [Int.toNat_natCast, List.getD_eq_getElem?_getD, List.getElem?_eq_getElem hiw, hXX]; rfl] at hcw
           have u3 : wrap64 ((i : Int) + 1) = (i : Int) + 1 := MB.wrap64_in _ b3.1 b3.2
           have k0 := cell_regrown hx0
           have k1' := cell_regrown hcw
           clear hX hXX hiw him hil b3 hx0 hcw
           go_wp2_with (fail)
           refine region_wq (by kernel_rfl) (by kernel_rfl) ?_
           repeat (refine WQ.step (fun KK hKK => ?_); go_simp; refine hKK _ ?_; clear hKK KK)
           refine WQ.nil ?_
           intro _ hw'
           obtain ⟨⟨dq, osq⟩, hw''⟩ := hw'
           subst hw''
           have HBP1 := Aside0.mk (HBP.out.below (below_regrown wr dq osq))
           have HA1 := Aside0.mk (HA.out.below (below_regrown wr dq osq))
           have HQ1 := Aside0.mk (HQ.out.below (below_regrown wr dq osq))
           obtain ⟨v3, hv3⟩ : ∃ x, x = Go.Sort.grow (redrawn wr dq) osq := ⟨_, rfl⟩
           rw [← hv3] at HBP1 HA1 HQ1 ⊢
           clear hv3 k0 k1'
           obtain ⟨hy0, hf0⟩ := Kd.R_celln ByteArray.empty HBP1.out.wide (i : Int) p1 p2
           have hP := Kd.R_putg HBP1.out.wide (i : Int) (⟨#[111, 118, 101, 114]⟩ : ByteArray)
           rw [Int.toNat_natCast] at hy0 hf0 hP
           have HP := Aside0.mk hP
           clear hP
           go_wp2_with (fail)
           have HBP2 := Aside0.mk (HBP1.out.put HP.out.2 HGC.out HP.out.1)
           have HA2 := Aside0.mk (Rg.other HA1.out HP.out.2 (fun j hj => by cases hj; rw [HGC.out]; decide))
           have HQ2 := Aside0.mk (Rg.other HQ1.out HP.out.2 (fun j hj => by cases hj; rw [HGC.out]; decide))
           go_roundg k1
           case measure => exact Nat.lt_succ_self _
           case rel => exact ⟨i + 1, _, by first | rfl | (rw [u3]; rfl), HJ, HBP2, HA2, HQ2, ⟨HL2.out _⟩⟩
         · have d1 : decide ((i : Int) < (m : Int)) = false := decide_eq_false (by omega)
           have d2 : decide (i < m) = false := decide_eq_false him
           have d3 : decide ((m : Int) ≤ (i : Int)) = true := decide_eq_true (by omega)
           have d4 : decide (m ≤ i) = true := decide_eq_true (by omega)
           have hiw : ¬ i < Lw.length := by have := HM.out; omega
           rw [show ((rooms Lw 30)[i]?).getD ByteArray.empty = room from by unfold rooms; rw [List.getElem?_append_right (by omega), List.getElem?_replicate, if_pos (by have h1 := HNM.out; have h2 := HM.out; omega)]; rfl] at hx0
           have u3 : wrap64 ((i : Int) + 1) = (i : Int) + 1 := MB.wrap64_in _ b3.1 b3.2
           have hx0 : wr.cell? ⟨g, i, none⟩ = some (.string ⟨#[114, 111, 111, 109]⟩) := hx0
           have k0 := cell_regrown hx0
           clear hX hiw him hil b3 hx0
           go_wp2_with (fail)
           refine region_wq (by kernel_rfl) (by kernel_rfl) ?_
           repeat (refine WQ.step (fun KK hKK => ?_); go_simp; refine hKK _ ?_; clear hKK KK)
           refine WQ.nil ?_
           intro _ hw'
           obtain ⟨⟨dq, osq⟩, hw''⟩ := hw'
           subst hw''
           have HBP1 := Aside0.mk (HBP.out.below (below_regrown wr dq osq))
           have HA1 := Aside0.mk (HA.out.below (below_regrown wr dq osq))
           have HQ1 := Aside0.mk (HQ.out.below (below_regrown wr dq osq))
           obtain ⟨v3, hv3⟩ : ∃ x, x = Go.Sort.grow (redrawn wr dq) osq := ⟨_, rfl⟩
           rw [← hv3] at HBP1 HA1 HQ1 ⊢
           clear hv3 k0
           obtain ⟨hy0, hf0⟩ := Kd.R_celln ByteArray.empty HBP1.out.wide (i : Int) p1 p2
           have hP := Kd.R_putg HBP1.out.wide (i : Int) (⟨#[111, 118, 101, 114]⟩ : ByteArray)
           rw [Int.toNat_natCast] at hy0 hf0 hP
           have HP := Aside0.mk hP
           clear hP
           go_wp2_with (fail)
           have HBP2 := Aside0.mk (HBP1.out.put HP.out.2 HGC.out HP.out.1)
           have HA2 := Aside0.mk (Rg.other HA1.out HP.out.2 (fun j hj => by cases hj; rw [HGC.out]; decide))
           have HQ2 := Aside0.mk (Rg.other HQ1.out HP.out.2 (fun j hj => by cases hj; rw [HGC.out]; decide))
           go_roundg k1
           case measure => exact Nat.lt_succ_self _
           case rel => exact ⟨i + 1, _, by first | rfl | (rw [u3]; rfl), HJ, HBP2, HA2, HQ2, ⟨HL2.out _⟩⟩
      | succ k1 =>
       have hil : i < 30 := by have := HI.out; omega
       have HJ := Aside0.mk (show i + 1 + k1 = 30 from by have := HI.out; omega)
       have hlt : decide ((i : Int) < 30) = true := decide_eq_true (by omega)
       have hlt' : decide (i < 30) = true := decide_eq_true hil
       have HLL := Aside0.mk (show ((rooms Lw i).length + 1) * 16 ≤ 140737488355328 from by rw [rooms_len]; have h1 := HML.out; have h2 := HM.out; omega)
       have u3 : wrap64 ((i : Int) + 1) = (i : Int) + 1 := MB.wrap64_in _ (by omega) (by omega)
       clear hil
       go_wp2_with (first | ((with_reducible refine gate_builtin (b := .append) (xs := #[.tmp 65, .tmp 66]) rfl ?_); at_builtin; refine Kd.R_append Kd.string (w0 := wr) 0 rfl (.tmp 65) (.tmp 66) 25 9 (.string ⟨#[]⟩) 16 rfl Try.underlying25 (by kernel_rfl) rfl (by decide) (by decide) u7 (rooms Lw i) room [.string room] (fun j => col j = 1 ∨ wr.heap.size ≤ j) (fun _ => False) rfl ?hx ?aP (fun _ hk => hk.elim) ?aF ?aO ?aB ?aS ?aL ?_; (case hx => first | rfl | (go_simp; done) | (simp [World.alloc]; done)); (case aP => exact rfl); (case aF => exact fun j hj => .inr hj); (case aO => exact Kd.R_mono HBP.out.wide (fun j hj => .inl hj)); (case aB => exact Below.refl _ _); (case aS => exact Nat.zero_le _); (case aL => exact HLL.out); intro vm v5 ho hb5 hg5 hat; have HO5 := Aside0.mk ho; have HG5 := Aside0.mk hg5; clear ho hb5 hg5 hat))
       have HBP5 := Aside0.mk (show Bp w v5 (Ap.coled wr col 1) vm (rooms Lw (i + 1)) (.slice Aq Lw.length cq) Lw from by
         have h := HO5.out
         rw [rooms_succ] at h
         exact HBP.out.longer HG5.out h)
       go_roundg k1
       case measure => exact Nat.lt_succ_self _
       case rel => exact ⟨i + 1, _, by first | rfl | (rw [u3]; rfl), HJ, HBP5⟩
end Go.Proofs.Ytdclafjgfnbibaa.Pm
