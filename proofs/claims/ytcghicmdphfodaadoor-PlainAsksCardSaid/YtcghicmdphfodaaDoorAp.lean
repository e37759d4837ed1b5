/- append: the row stays, or all old blocks stay. Families of slices over a row of their own. No condition beyond those that each theorem names; no program. -/
import Derived.Test.YtcghicmdphfodaaDoorWWords
import Derived.Maps.AppendAt
set_option linter.unusedVariables false
namespace Go.Proofs.YtcghicmdphfodaaDoor.Ap
open Go.RowKit Go.Proofs.YtcghicmdphfodaaDoorW.PrintWords
section
variable {P : Program}
/-- What comes back lies in the row that was, or no old block is turned. -/
theorem append_apart (w : World) (base : Nat) (t ty e : TypeId) (i : TypeInfo) (z : Value) (ht : P.underlying t = some (.slice e)) (hi : P.info? e = some i) (hz : i.zero = some z)
    (v : Value) (n : Nat) (xs : List Value) (hown : w.ownsRow base e i.size v n xs)
    (a : Addr) (m c : Nat) (news : List Value) (hl : news.length = m * i.size) (hnews : ∀ j u, news[j]? = some u → w.cell? (a.add j) = some u) (h1 : ∀ u ∈ news, u.oneCell' = true)
    (hm : 0 < m) (h63 : n + m ≤ maxLen) (hbytes : (n + m) * i.bytes ≤ 140737488355328) {v' : Value} {w' : World}
    (hr : (Builtin.append_ #[t, t] ty #[v, .slice (some a) m c]).run P w = .ok v' w') :
    v'.ownBlock = v.ownBlock ∨ ∀ k, k < w.heap.size → w'.heap[k]? = w.heap[k]? := by
  have hb := h63
  simp only [maxLen] at hb
  rcases hown.2 with ⟨rfl, rfl⟩ | ⟨g, cap, cur, rfl, hbg, hg, hnc, hcm, hcs, htake⟩
  · have e1 := run_append_nil (P := P) w t ty e i z ht hi hz a m c news hl hnews hm (by omega) (by have := hbytes; simp only [Nat.zero_add] at this; omega)
    rw [e1] at hr
    injection hr with _ h2
    subst h2
    exact .inr fun k hk => by first | exact heap_alloc_old w.drew _ (show k < w.drew.heap.size from hk) | exact Go.heap_alloc_old w.drew _ k hk
  · by_cases hroom : n + m ≤ cap
    · have hfit : n * i.size + news.length ≤ cur.size := by rw [hl, hcs, ← Nat.add_mul]; exact Nat.mul_le_mul_right _ hroom
      have e1 := run_append_room (P := P) w t ty e i ht hi g n cap cur hg a m c news hl hnews h1 hroom hfit
      rw [e1] at hr
      injection hr with h2 _
      subst h2
      exact .inl rfl
    · have e1 := run_append_grow (P := P) w t ty e i z ht hi hz ⟨g, 0, none⟩ n cap xs hown.1 (hown.cells (g := g) rfl) a m c news hl hnews (by omega) (by omega) (growslice_fits (by omega) hbytes)
      rw [e1] at hr
      injection hr with _ h2
      subst h2
      exact .inr fun k hk => by first | exact heap_alloc_old w.drew _ (show k < w.drew.heap.size from hk) | exact Go.heap_alloc_old w.drew _ k hk
/-- append(v, p) at the walk, with that. -/
theorem wpList_append_apart {ops : Array Oper} {rest : List Oper} {o : Oper} {a : Act} {Q : Exit → Act → World → Prop} {α : Type} (d : Kd α) {W : World} (hgd : o.guard = none) (s x : Operand) (t e : TypeId) (z : Value) (bytes : Nat)
    (ho : o.op = .call { callee := .builtin .append, args := #[s, x], argTypes := #[t, t] })
    (ht : P.underlying t = some (.slice e)) (hinfo : (P.info? e).map (fun i => (i.zero, i.size, i.bytes)) = some (some z, d.sz, bytes)) (hz : z.cells.size = d.sz) (hs0 : 0 < d.sz)
    (v : Value) (xs : List α) (p : α) (cs : List Value) (ok : Nat → Prop) (hs : a.eval s = v) (hx : a.eval x = .slice (some ⟨W.heap.size, 0, none⟩) 1 1) (hp : d.M W 0 (fun _ => False) p cs) (hfresh : ∀ k, W.heap.size ≤ k → ok k)
    (HO : d.R e W 0 ok v xs) (hl : (xs.length + 1) * bytes ≤ 140737488355328) (hb0 : 0 < bytes)
    (h : ∀ v1 w1, d.R e w1 0 ok v1 (xs ++ [p]) → W.grownBy w1 v.ownBlock → (v1.ownBlock = v.ownBlock ∨ ((∃ b, v1.ownBlock = some b ∧ W.heap.size ≤ b) ∧ ∀ k, k < W.heap.size → w1.heap[k]? = W.heap[k]?)) → wpList P ops Q rest (a.put o.dst v1) w1) :
    wpList P ops Q (o :: rest) a (W.alloc (.cells cs.toArray e)) := by
  obtain ⟨h0, inner, hown, hr⟩ := HO
  obtain ⟨i0, hi, hzz⟩ := Option.map_eq_some_iff.1 hinfo
  simp only [Prod.mk.injEq] at hzz
  obtain ⟨hz0, hz1, hz2⟩ := hzz
  have hcl : cs.length = d.sz := d.K_len (d.K_of_M hp)
  have hlen : xs.length + 1 ≤ 140737488355328 := Nat.le_trans (Nat.le_mul_of_pos_right _ hb0) hl
  have hnews : ∀ j u, cs[j]? = some u → (W.alloc (.cells cs.toArray e)).cell? ((⟨W.heap.size, 0, none⟩ : Addr).add j) = some u := by
    simpa using World.news_of_block (cs := cs.toArray) (t := e) (fr := (0, 0)) (heap_alloc_new W (.cells cs.toArray e))
  have hown' := hown.alloc (.cells cs.toArray e)
  refine wpList_plain hgd fun K hK => ?_
  obtain ⟨v1, w1, hrun, h2, h3, _, h5⟩ := run_append_own_at (P := P) (W.alloc (.cells cs.toArray e)) 0 t o.type e i0 z d.sz bytes ht hi hz0 hz1 hz2 hz hs0 v xs.length inner hown' ⟨W.heap.size, 0, none⟩ 1 1 cs (by rw [hcl]; omega) hnews (d.K_one (d.K_of_M hp)) (by simp only [maxLen]; omega) hl (Nat.zero_le _)
  have h6 := append_apart (P := P) (W.alloc (.cells cs.toArray e)) 0 t o.type e i0 z ht hi hz0 v xs.length inner (by rw [hz1]; exact hown') ⟨W.heap.size, 0, none⟩ 1 1 cs (by rw [hcl, hz1]; omega) hnews (d.K_one (d.K_of_M hp)) (by omega) (by simp only [maxLen]; omega) (by rw [hz2]; exact hl) hrun
  have hg : W.grownBy w1 v.ownBlock := World.grownBy.trans (World.grownBy_alloc W _ _) h3
  have hat : v1.ownBlock = v.ownBlock ∨ ∃ b, v1.ownBlock = some b ∧ W.heap.size ≤ b := by
    rcases h5 with h5 | h5
    · exact .inl h5
    · exact .inr ⟨_, h5, by simp⟩
  unfold Oper.wp execOp
  simp only [ho, resolve, invoke, builtin, Sem.run_bind, Sem.run_pure, Result.andThen_ok, List.map_toArray, List.map_cons, List.map_nil, hs, hx, hrun]
  refine hK _ _ (h v1 w1 (Kd.R_appended h0 hr hp (fun _ h => h.elim) hfresh h2 hg hat) hg ?_)
  rcases hat with hat | hat
  · exact .inl hat
  · rcases h6 with h6 | h6
    · exact .inl h6
    · exact .inr ⟨hat, fun k hk => (h6 k (by simp; omega)).trans (by first | exact heap_alloc_old W _ hk | exact Go.heap_alloc_old W _ k hk)⟩
end
/-! A slice of n cells at block g, all y, and what was made by lengthening it, m times y: each family in blocks of its own colour. -/
theorem R_other {α : Type} {d : Kd α} {e : TypeId} {w w1 : World} {col : Nat → Nat} {t : Nat} {v : Value} {xs : List α} {row : Option Nat} (h : d.R e w 0 (fun j => col j = t) v xs) (hg : w.grownBy w1 row) (hn : ∀ j, row = some j → col j ≠ t) : d.R e w1 0 (fun j => col j = t) v xs :=
  Kd.R_step h (fun j hj hl => hg.block j hl (fun e => hn j e.symm hj))
theorem R_recol {α : Type} {d : Kd α} {e : TypeId} {w : World} {col col' : Nat → Nat} {t : Nat} {v : Value} {xs : List α} (h : d.R e w 0 (fun j => col j = t) v xs) (hc : ∀ j, j < w.heap.size → col' j = col j) : d.R e w 0 (fun j => col' j = t) v xs :=
  Kd.R_mono (Kd.R_bound h) (fun j hj => by rw [hc j hj.2.2.1]; exact hj.1)
structure Fam (w : World) (k : IntKind) (e : TypeId) (col : Nat → Nat) (t g n : Nat) (v : Value) (y : Int) (m : Nat) : Prop where
  row : Kd.R (Kd.int k) e w 0 (fun j => col j = t) v (List.replicate m y)
  cells : ∀ i, i < n → w.cell? ⟨g, i, none⟩ = some (.int k y)
  own : 0 < n → col g = t ∧ g < w.heap.size
  le : n ≤ m
theorem Fam.other {w w1 : World} {k : IntKind} {e : TypeId} {col : Nat → Nat} {t g n : Nat} {v : Value} {y : Int} {m : Nat} {row : Option Nat} (h : Fam w k e col t g n v y m) (hg : w.grownBy w1 row) (hn : ∀ j, row = some j → col j ≠ t) : Fam w1 k e col t g n v y m :=
  ⟨R_other h.row hg hn, fun i hi => (World.cell?_of_block (a := ⟨g, i, none⟩) (hg.block g (h.own (Nat.lt_of_le_of_lt (Nat.zero_le _) hi)).2 (fun e => hn g e.symm (h.own (Nat.lt_of_le_of_lt (Nat.zero_le _) hi)).1))).trans (h.cells i hi), fun h0 => ⟨(h.own h0).1, Nat.lt_of_lt_of_le (h.own h0).2 hg.size⟩, h.le⟩
theorem Fam.recol {w : World} {k : IntKind} {e : TypeId} {col col' : Nat → Nat} {t g n : Nat} {v : Value} {y : Int} {m : Nat} (h : Fam w k e col t g n v y m) (hc : ∀ j, j < w.heap.size → col' j = col j) : Fam w k e col' t g n v y m :=
  ⟨R_recol h.row hc, h.cells, fun h0 => ⟨by rw [hc g (h.own h0).2]; exact (h.own h0).1, (h.own h0).2⟩, h.le⟩
/-- The colours behind an append of family t. -/
def coled (w : World) (col : Nat → Nat) (t : Nat) : Nat → Nat := fun j => if w.heap.size ≤ j then t else col j
theorem coled_old (w : World) (col : Nat → Nat) (t j : Nat) (hj : j < w.heap.size) : coled w col t j = col j := by unfold coled; rw [if_neg (by omega)]
theorem Fam.push {w w1 : World} {k : IntKind} {e : TypeId} {col : Nat → Nat} {t g n : Nat} {v v1 : Value} {y : Int} {m : Nat} (h : Fam w k e col t g n v y m)
    (hR : Kd.R (Kd.int k) e w1 0 (fun j => col j = t ∨ w.heap.size ≤ j) v1 (List.replicate m y ++ [y])) (hg : w.grownBy w1 v.ownBlock)
    (ho : v1.ownBlock = v.ownBlock ∨ ((∃ b, v1.ownBlock = some b ∧ w.heap.size ≤ b) ∧ ∀ j, j < w.heap.size → w1.heap[j]? = w.heap[j]?)) : Fam w1 k e (coled w col t) t g n v1 y (m + 1) := by
  have hrep : List.replicate m y ++ [y] = List.replicate (m + 1) y := by rw [List.replicate_succ']
  refine ⟨?_, fun i hi => ?_, fun h0 => ⟨by rw [coled_old _ _ _ _ (h.own h0).2]; exact (h.own h0).1, Nat.lt_of_lt_of_le (h.own h0).2 hg.size⟩, Nat.le_succ_of_le h.le⟩
  · rw [← hrep]
    refine Kd.R_mono hR (fun j hj => ?_)
    unfold coled
    by_cases c : w.heap.size ≤ j
    · rw [if_pos c]
    · rw [if_neg c]; rcases hj with hj | hj
      · exact hj
      · exact absurd hj c
  · have h0 : 0 < n := Nat.lt_of_le_of_lt (Nat.zero_le _) hi
    have hold := h.cells i hi
    rcases ho with ho | ⟨_, ho⟩
    · by_cases c : v.ownBlock = some g
      · obtain ⟨g', cap, ev, _, _, _⟩ := Kd.R_form hR (by rw [hrep, List.length_replicate]; omega)
        subst ev
        have eg : g' = g := by
          have h2 : (Value.slice (some ⟨g', 0, none⟩) (List.replicate m y ++ [y]).length cap).ownBlock = some g' := rfl
          rw [h2, c] at ho; exact Option.some.inj ho
        subst eg
        have h3 := (Kd.R_celln (0 : Int) hR (i : Int) (by omega) (by rw [hrep, List.length_replicate]; have := h.le; omega)).1
        rw [Int.toNat_natCast] at h3
        rw [h3]
        have e1 : rdOf (0 : Int) (List.replicate m y ++ [y]) (i : Int) = y := by
          unfold rdOf
          rw [hrep, Int.toNat_natCast, List.getD_eq_getElem?_getD, List.getElem?_replicate, if_pos (by have := h.le; omega)]; rfl
        rw [e1]
      · exact (World.cell?_of_block (a := ⟨g, i, none⟩) (hg.block g (h.own h0).2 (fun e => c e.symm))).trans hold
    · exact (World.cell?_of_block (a := ⟨g, i, none⟩) (ho g (h.own h0).2)).trans hold
end Go.Proofs.YtcghicmdphfodaaDoor.Ap
