/- Lists of lists: slice headers in a row, each list in blocks of its own colour; lists and their lengthened copies. No condition beyond those that each theorem names; no program. -/
import Derived.Test.YtdclafjgfnbibaaAp
import Derived.Test.YtdclafjgfnbibaaOb
set_option linter.unusedVariables false
namespace Go.Proofs.Ytdclafjgfnbibaa.Dk
open Go.RowKit Go.Proofs.YtdclafjgfnbibaaW.PrintWords Go.Proofs.Ytdclafjgfnbibaa.Ap Go.Proofs.Ytdclafjgfnbibaa.Ob
/-- A slice header: its block, its length, its room. -/
structure H where
  blk : Option Nat
  n : Nat
  c : Nat
def H.val (h : H) : Value := .slice (h.blk.map fun b => (⟨b, 0, none⟩ : Addr)) h.n h.c
def kH : Kd H := Kd.scalar H.val (fun _ => rfl)
def zH : H := ⟨none, 0, 0⟩
section
variable {α : Type} {d : Kd α} {e : TypeId} {w w1 : World} {b : Nat} {ok : Nat → Prop} {v : Value} {xs : List α}
/-- What a row's value is. -/
theorem R_hdr (h : d.R e w b ok v xs) : ∃ c : H, v = c.val ∧ c.n = xs.length ∧ (∀ g, c.blk = some g → ok g ∧ g < w.heap.size) ∧ (0 < xs.length → ∃ g, c.blk = some g) := by
  have h9 := h
  obtain ⟨h0, inner, hown, hr⟩ := h
  rcases hown.2 with ⟨hv, hn⟩ | ⟨g, cap, cur, hv, hbg, hg, _⟩
  · exact ⟨⟨none, 0, 0⟩, hv, hn.symm, fun g hg => (by cases hg), fun h => (by omega)⟩
  · refine ⟨⟨some g, xs.length, cap⟩, hv, rfl, fun g' hg' => ?_, fun _ => ⟨g, rfl⟩⟩
    cases hg'
    exact ⟨h0 g (by rw [hv]; rfl), Kd.R_lt h9 g (by rw [hv]; rfl)⟩
theorem H.own (h : H) : h.val.ownBlock = h.blk := by
  obtain ⟨bl, n, c⟩ := h
  cases bl <;> rfl
end
theorem at_H {w : World} {A : Option Addr} {n : Nat} {xs : List H} (h : Kd.C kH w A n xs) (i : Nat) (x : H) (hi : xs[i]? = some x) : ∃ ad, A = some ad ∧ w.cell? (ad.add i) = some x.val := by
  have hl : i < n := by have := (List.getElem?_eq_some_iff.1 hi).1; have h2 := Kd.C_len h; omega
  obtain ⟨ad, e, hc⟩ := ReadsOf.at_ (Kd.reads_of_C (enc := H.val) (d := zH) (h1 := fun _ => rfl) h) (i : Int) (by omega) (by omega)
  refine ⟨ad, e, ?_⟩
  rw [Int.toNat_natCast] at hc
  rw [hc]; unfold rdOf
  rw [Int.toNat_natCast, List.getD_eq_getElem?_getD, hi]; rfl
/-- Three headers laid in a box. -/
theorem three {w : World} {g : Nat} {e : TypeId} {x y z : H} (h : w.heap[g]? = some (.cells #[x.val, y.val, z.val] e (0, 0))) : Kd.C kH w (some ⟨g, 0, none⟩) 3 [x, y, z] := by
  refine Kd.C_of_reads (h1 := fun _ => rfl) (d := zH) ⟨rfl, by simp, fun _ => ⟨⟨g, 0, none⟩, rfl, fun i hi => ?_⟩⟩
  have e : i = 0 ∨ i = 1 ∨ i = 2 := by have h2 : i < 3 := hi; omega
  rcases e with rfl | rfl | rfl <;> simp [World.cell?, h, Addr.add]
/-- Lists, the t-th of them in blocks of the colour b + t. -/
structure Deck {α : Type} (d : Kd α) (e : TypeId) (w : World) (col : Nat → Nat) (b : Nat) (hs : List H) (Xs : List (List α)) : Prop where
  len : Xs.length = hs.length
  row : ∀ t h X, hs[t]? = some h → Xs[t]? = some X → d.R e w 0 (fun j => col j = b + t) h.val X
section
variable {α : Type} {d : Kd α} {e : TypeId} {w w1 : World} {col col' : Nat → Nat} {b : Nat} {hs : List H} {Xs : List (List α)}
theorem Deck.nil (d : Kd α) (e : TypeId) (w : World) (col : Nat → Nat) (b : Nat) : Deck d e w col b [] [] := ⟨rfl, fun t h X h1 _ => by simp at h1⟩
theorem Deck.step (D : Deck d e w col b hs Xs) (hm : ∀ j, b ≤ col j → j < w.heap.size → w1.heap[j]? = w.heap[j]?) : Deck d e w1 col b hs Xs :=
  ⟨D.len, fun t h X h1 h2 => Kd.R_step (D.row t h X h1 h2) (fun j hj hl => hm j (by omega) hl)⟩
theorem Deck.below (D : Deck d e w col b hs Xs) (hB : Below w.heap.size w w1) : Deck d e w1 col b hs Xs := D.step (fun j _ hj => hB.block j hj)
theorem Deck.recol (D : Deck d e w col b hs Xs) (hc : ∀ j, j < w.heap.size → col' j = col j) : Deck d e w col' b hs Xs :=
  ⟨D.len, fun t h X h1 h2 => R_recol (D.row t h X h1 h2) hc⟩
theorem Deck.kept {S : Nat → Prop} (D : Deck d e w col b hs Xs) (hk : Kp w w1 S) (hS : ∀ j, S j → col j < b) : Deck d e w1 col b hs Xs :=
  D.step (fun j hj hl => hk.keep j hl (fun h => by have := hS j h; omega))
theorem Deck.grown {row : Option Nat} (D : Deck d e w col b hs Xs) (hg : w.grownBy w1 row) (hn : ∀ j, row = some j → col j < b) : Deck d e w1 col b hs Xs :=
  D.step (fun j hj hl => hg.block j hl (fun e => by have := hn j e.symm; omega))
theorem Deck.push (D : Deck d e w col b hs Xs) {h : H} {X : List α} (hR : d.R e w 0 (fun j => col j = b + hs.length) h.val X) : Deck d e w col b (hs ++ [h]) (Xs ++ [X]) := by
  refine ⟨by simp [D.len], fun t h' X' h1 h2 => ?_⟩
  rcases Nat.lt_or_ge t hs.length with ht | ht
  · rw [List.getElem?_append_left ht] at h1
    rw [List.getElem?_append_left (by rw [D.len]; exact ht)] at h2
    exact D.row t h' X' h1 h2
  · rw [List.getElem?_append_right ht] at h1
    rw [List.getElem?_append_right (by rw [D.len]; exact ht), D.len] at h2
    have e0 : t - hs.length = 0 := by
      rcases Nat.eq_zero_or_pos (t - hs.length) with h | h
      · exact h
      · rw [List.getElem?_eq_none (by simp; omega)] at h1; cases h1
    rw [e0] at h1 h2
    simp at h1 h2
    subst h1 h2
    have et : t = hs.length := by omega
    rw [et]; exact hR
/-- The t-th list has been written into. -/
theorem Deck.put (D : Deck d e w col b hs Xs) {t : Nat} {h : H} {X X1 : List α} (ht : hs[t]? = some h) (hX : Xs[t]? = some X) {row : Option Nat} (hg : w.grownBy w1 row) (hrow : ∀ j, row = some j → col j = b + t) (hR : d.R e w1 0 (fun j => col j = b + t) h.val X1) : Deck d e w1 col b hs (Xs.set t X1) := by
  refine ⟨by simp [D.len], fun s h' X' h1 h2 => ?_⟩
  by_cases c : t = s
  · subst c
    rw [ht] at h1; cases h1
    rw [List.getElem?_set_self (by have := (List.getElem?_eq_some_iff.1 hX).1; exact this)] at h2
    cases h2; exact hR
  · rw [List.getElem?_set_ne c] at h2
    exact R_other (D.row s h' X' h1 h2) hg (fun j hj => by have := hrow j hj; omega)
theorem Deck.lens (D : Deck d e w col b hs Xs) : ∀ (t : Nat) (h : H) (X : List α), hs[t]? = some h → Xs[t]? = some X → h.n = X.length := fun t h X h1 h2 => by
  obtain ⟨c, hc, hn, _⟩ := R_hdr (D.row t h X h1 h2)
  obtain ⟨b1, n1, c1⟩ := h
  obtain ⟨b2, n2, c2⟩ := c
  have h3 : n1 = n2 := by unfold H.val at hc; injection hc
  show n1 = _
  rw [h3]; exact hn
theorem Deck.blk (D : Deck d e w col b hs Xs) : ∀ (t : Nat) (h : H) (X : List α), hs[t]? = some h → Xs[t]? = some X → 0 < h.n → ∃ g, h.blk = some g ∧ col g = b + t ∧ g < w.heap.size := fun t h X h1 h2 h0 => by
  have hl := D.lens t h X h1 h2
  have hR := D.row t h X h1 h2
  obtain ⟨g, cp, eg, _, gl, _⟩ := Kd.R_form hR (by omega)
  have ho : h.val.ownBlock = some g := by rw [eg]; rfl
  rw [H.own] at ho
  exact ⟨g, ho, hR.1 g (by rw [H.own]; exact ho), gl⟩
end
/-! A list of n elements at block g, all y (whose cells are cs), and its lengthened copy, m times y. -/
structure Fm {α : Type} (d : Kd α) (e : TypeId) (w : World) (col : Nat → Nat) (t : Nat) (g : Option Nat) (n : Nat) (v : Value) (y : α) (cs : List Value) (m : Nat) : Prop where
  row : d.R e w 0 (fun j => col j = t) v (List.replicate m y)
  cells : ∀ i, i < n → ∀ j u, cs[j]? = some u → ∃ b, g = some b ∧ w.cell? ⟨b, i * d.sz + j, none⟩ = some u
  own : ∀ b, g = some b → col b = t ∧ b < w.heap.size
  le : n ≤ m
section
variable {α : Type} {d : Kd α} {e : TypeId} {w w1 : World} {col col' : Nat → Nat} {t : Nat} {g : Option Nat} {n m : Nat} {v v1 : Value} {y : α} {cs : List Value}
theorem add0 (g k : Nat) : (⟨g, 0, none⟩ : Addr).add k = ⟨g, k, none⟩ := by
  cases k <;> simp [Addr.add]
/-- The cells of a row of equal elements. -/
theorem rep_cells (hf : ∀ w c, d.K w y c → c = cs) {b : Nat} {k : Nat} {ok : Nat → Prop} {gg cap mm : Nat} (h : d.R e w k ok (.slice (some ⟨gg, 0, none⟩) mm cap) (List.replicate m y)) : ∀ i, i < m → ∀ j u, cs[j]? = some u → w.cell? ⟨gg, i * d.sz + j, none⟩ = some u := by
  intro i hi j u hu
  obtain ⟨_, _, hC⟩ := Kd.R_reads' h
  rw [List.length_replicate] at hC
  obtain ⟨ad, c, ea, _, hK, hc⟩ := Kd.C_get hC y (i : Int) (by omega) (by omega)
  cases ea
  have e1 : (List.replicate m y).getD (i : Int).toNat y = y := by
    rw [Int.toNat_natCast, List.getD_eq_getElem?_getD, List.getElem?_replicate, if_pos hi]; rfl
  rw [e1] at hK
  rw [hf w c hK] at hc
  have := hc j u hu
  rw [Int.toNat_natCast] at this
  rw [add0] at this; exact this
theorem Fm.start (hf : ∀ w c, d.K w y c → c = cs) {h : H} (hR : d.R e w 0 (fun j => col j = t) h.val (List.replicate n y)) : Fm d e w col t h.blk h.n h.val y cs h.n := by
  have hn : h.n = n := by
    obtain ⟨c, hc, hn, _⟩ := R_hdr hR
    obtain ⟨b1, n1, c1⟩ := h
    obtain ⟨b2, n2, c2⟩ := c
    have h3 : n1 = n2 := by unfold H.val at hc; injection hc
    show n1 = _
    rw [h3]; rw [List.length_replicate] at hn; exact hn
  refine ⟨by rw [hn]; exact hR, fun i hi j u hu => ?_, fun b hb => ?_, Nat.le_refl _⟩
  · obtain ⟨g, cp, eg, _, gl, _⟩ := Kd.R_form hR (by rw [List.length_replicate]; omega)
    have ho : h.val.ownBlock = some g := by rw [eg]; rfl
    rw [H.own] at ho
    refine ⟨g, ho, ?_⟩
    rw [eg] at hR
    exact rep_cells (b := 0) hf hR i (by omega) j u hu
  · have ho : h.val.ownBlock = some b := by rw [H.own]; exact hb
    exact ⟨hR.1 b ho, Kd.R_lt hR b ho⟩
theorem Fm.step (h : Fm d e w col t g n v y cs m) (hz : w.heap.size ≤ w1.heap.size) (hm : ∀ j, col j = t → j < w.heap.size → w1.heap[j]? = w.heap[j]?) : Fm d e w1 col t g n v y cs m :=
  ⟨Kd.R_step h.row (fun j hj hl => hm j hj hl), fun i hi j u hu => by
    obtain ⟨b, hb, hc⟩ := h.cells i hi j u hu
    exact ⟨b, hb, (World.cell?_of_block (a := ⟨b, i * d.sz + j, none⟩) (hm b (h.own b hb).1 (h.own b hb).2)).trans hc⟩, fun b hb => ⟨(h.own b hb).1, Nat.lt_of_lt_of_le (h.own b hb).2 hz⟩, h.le⟩
theorem Fm.other {row : Option Nat} (h : Fm d e w col t g n v y cs m) (hg : w.grownBy w1 row) (hn : ∀ j, row = some j → col j ≠ t) : Fm d e w1 col t g n v y cs m :=
  h.step hg.size (fun j hj hl => hg.block j hl (fun e => hn j e.symm hj))
theorem Fm.recol (h : Fm d e w col t g n v y cs m) (hc : ∀ j, j < w.heap.size → col' j = col j) : Fm d e w col' t g n v y cs m :=
  ⟨R_recol h.row hc, h.cells, fun b hb => ⟨by rw [hc b (h.own b hb).2]; exact (h.own b hb).1, (h.own b hb).2⟩, h.le⟩
theorem Fm.push (hf : ∀ w c, d.K w y c → c = cs) (h : Fm d e w col t g n v y cs m)
    (hR : d.R e w1 0 (fun j => col j = t ∨ w.heap.size ≤ j) v1 (List.replicate m y ++ [y])) (hg : w.grownBy w1 v.ownBlock)
    (ho : v1.ownBlock = v.ownBlock ∨ ((∃ b, v1.ownBlock = some b ∧ w.heap.size ≤ b) ∧ ∀ j, j < w.heap.size → w1.heap[j]? = w.heap[j]?)) : Fm d e w1 (coled w col t) t g n v1 y cs (m + 1) := by
  have hrep : List.replicate m y ++ [y] = List.replicate (m + 1) y := by rw [List.replicate_succ']
  refine ⟨?_, fun i hi j u hu => ?_, fun b hb => ⟨by rw [coled_old _ _ _ _ (h.own b hb).2]; exact (h.own b hb).1, Nat.lt_of_lt_of_le (h.own b hb).2 hg.size⟩, Nat.le_succ_of_le h.le⟩
  · rw [← hrep]
    refine Kd.R_mono hR (fun j hj => ?_)
    unfold coled
    by_cases c : w.heap.size ≤ j
    · rw [if_pos c]
    · rw [if_neg c]; rcases hj with hj | hj
      · exact hj
      · exact absurd hj c
  · obtain ⟨b, hb, hold⟩ := h.cells i hi j u hu
    refine ⟨b, hb, ?_⟩
    rcases ho with ho | ⟨_, ho⟩
    · by_cases c : v.ownBlock = some b
      · obtain ⟨g', cap, ev, _, _, _⟩ := Kd.R_form hR (by rw [hrep, List.length_replicate]; omega)
        subst ev
        have eg : g' = b := by
          have h2 : (Value.slice (some ⟨g', 0, none⟩) (List.replicate m y ++ [y]).length cap).ownBlock = some g' := rfl
          rw [h2, c] at ho; exact Option.some.inj ho
        subst eg
        rw [hrep] at hR
        exact rep_cells (b := 0) hf hR i (by have := h.le; omega) j u hu
      · exact (World.cell?_of_block (a := ⟨b, i * d.sz + j, none⟩) (hg.block b (h.own b hb).2 (fun e => c e.symm))).trans hold
    · exact (World.cell?_of_block (a := ⟨b, i * d.sz + j, none⟩) (ho b (h.own b hb).2)).trans hold
theorem Fm.copy {v : H} (h : Fm d e w col t g n v.val y cs m) : v.n = m ∧ (0 < m → ∃ b, v.blk = some b ∧ col b = t ∧ b < w.heap.size) := by
  have hR := h.row
  obtain ⟨c, hc, hn, hb, hp⟩ := R_hdr hR
  have e : v = c := by
    obtain ⟨b1, n1, c1⟩ := v
    obtain ⟨b2, n2, c2⟩ := c
    unfold H.val at hc
    injection hc with e1 e2 e3
    subst e2 e3
    cases b1 <;> cases b2 <;> simp at e1 <;> simp_all
  subst e
  rw [List.length_replicate] at hn hp
  exact ⟨hn, fun h0 => by obtain ⟨b, hb1⟩ := hp h0; exact ⟨b, hb1, (hb b hb1).1, (hb b hb1).2⟩⟩
end
/-- The lists hs (all marks: the t-th list's is y t) and their lengthened copies vs: the t-th by x t marks. -/
structure Fs {α : Type} (d : Kd α) (e : TypeId) (w : World) (col : Nat → Nat) (b : Nat) (hs vs : List H) (y : Nat → α) (cs : Nat → List Value) (x : Nat → Nat) : Prop where
  len : vs.length = hs.length
  fam : ∀ t h v, hs[t]? = some h → vs[t]? = some v → Fm d e w col (b + t) h.blk h.n v.val (y t) (cs t) (h.n + x t)
section
variable {α : Type} {d : Kd α} {e : TypeId} {w w1 : World} {col col' : Nat → Nat} {b : Nat} {hs vs : List H} {y : Nat → α} {cs : Nat → List Value} {x : Nat → Nat}
theorem Fs.start (hf : ∀ t w c, d.K w (y t) c → c = cs t) {Xs : List (List α)} (D : Deck d e w col b hs Xs) (hX : ∀ t X, Xs[t]? = some X → X = List.replicate X.length (y t)) : Fs d e w col b hs hs y cs (fun _ => 0) := by
  refine ⟨rfl, fun t h v h1 h2 => ?_⟩
  rw [h1] at h2; cases h2
  obtain ⟨X, hx⟩ : ∃ X, Xs[t]? = some X := ⟨_, List.getElem?_eq_getElem (by rw [D.len]; exact (List.getElem?_eq_some_iff.1 h1).1)⟩
  have hR := D.row t h X h1 hx
  rw [hX t X hx] at hR
  exact Fm.start (hf t) hR
theorem Fs.below (F : Fs d e w col b hs vs y cs x) (hB : Below w.heap.size w w1) : Fs d e w1 col b hs vs y cs x :=
  ⟨F.len, fun t h v h1 h2 => (F.fam t h v h1 h2).step hB.size (fun j _ hj => hB.block j hj)⟩
theorem Fs.recol (F : Fs d e w col b hs vs y cs x) (hc : ∀ j, j < w.heap.size → col' j = col j) : Fs d e w col' b hs vs y cs x :=
  ⟨F.len, fun t h v h1 h2 => (F.fam t h v h1 h2).recol hc⟩
theorem Fs.grown {row : Option Nat} (F : Fs d e w col b hs vs y cs x) (hg : w.grownBy w1 row) (hn : ∀ j, row = some j → col j < b) : Fs d e w1 col b hs vs y cs x :=
  ⟨F.len, fun t h v h1 h2 => (F.fam t h v h1 h2).other hg (fun j hj => by have := hn j hj; omega)⟩
/-- The t-th copy has been lengthened. -/
theorem Fs.push (hf : ∀ t w c, d.K w (y t) c → c = cs t) (F : Fs d e w col b hs vs y cs x) {t : Nat} {h v v1 : H} (h1 : hs[t]? = some h) (h2 : vs[t]? = some v)
    (hR : d.R e w1 0 (fun j => col j = b + t ∨ w.heap.size ≤ j) v1.val (List.replicate (h.n + x t) (y t) ++ [y t])) (hg : w.grownBy w1 v.val.ownBlock)
    (ho : v1.val.ownBlock = v.val.ownBlock ∨ ((∃ b, v1.val.ownBlock = some b ∧ w.heap.size ≤ b) ∧ ∀ j, j < w.heap.size → w1.heap[j]? = w.heap[j]?)) :
    Fs d e w1 (coled w col (b + t)) b hs (vs.set t v1) y cs (fun s => if s = t then x s + 1 else x s) := by
  have hF := F.fam t h v h1 h2
  refine ⟨by simp [F.len], fun s h' v' h1' h2' => ?_⟩
  by_cases c : t = s
  · subst c
    rw [h1] at h1'; cases h1'
    rw [List.getElem?_set_self (by exact (List.getElem?_eq_some_iff.1 h2).1)] at h2'
    cases h2'
    have := Fm.push (hf t) hF hR hg ho
    simp only [if_true]
    exact this
  · rw [List.getElem?_set_ne c] at h2'
    have h3 := (F.fam s h' v' h1' h2').recol (coled_old w col (b + t))
    have e1 : (if s = t then x s + 1 else x s) = x s := by rw [if_neg (fun h => c h.symm)]
    simp only [e1]
    refine h3.other hg (fun j hj => ?_)
    rw [coled_old _ _ _ _ (Kd.R_lt hF.row j hj)]
    have : col j = b + t := hF.row.1 j hj
    omega
end
end Go.Proofs.Ytdclafjgfnbibaa.Dk
