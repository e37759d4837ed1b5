/- A store of a whole element of two cells into a row of the call's own. No condition beyond those that each theorem names; no program. -/
import Derived.Test.YtkefjoljokfieaaDk
import Derived.Laws.OwnMore
set_option linter.unusedVariables false
namespace Go.Proofs.Ytkefjoljokfieaa.Dk
open Go.RowKit Go.Proofs.YtkefjoljokfieaaW.PrintWords Go.Proofs.Ytkefjoljokfieaa.Ap Go.Proofs.Ytkefjoljokfieaa.Ob
theorem part_set (L : List Value) (i j : Nat) (u0 u1 : Value) (hi : 2 * i + 1 < L.length) : (((L.set (2 * i) u0).set (2 * i + 1) u1).drop (j * 2)).take 2 = if j = i then [u0, u1] else (L.drop (j * 2)).take 2 := by
  apply List.ext_getElem?
  intro k
  rcases Nat.lt_or_ge k 2 with hk | hk
  · rw [List.getElem?_take_of_lt hk, List.getElem?_drop]
    by_cases e : j = i
    · subst e
      rw [if_pos rfl]
      have e2 : k = 0 ∨ k = 1 := by omega
      rcases e2 with rfl | rfl
      · rw [List.getElem?_set_ne (by omega), show j * 2 + 0 = 2 * j from by omega, List.getElem?_set_self (by omega)]; rfl
      · rw [show j * 2 + 1 = 2 * j + 1 from by omega, List.getElem?_set_self (by rw [List.length_set]; omega)]; rfl
    · rw [if_neg e, List.getElem?_take_of_lt hk, List.getElem?_drop, List.getElem?_set_ne (by omega), List.getElem?_set_ne (by omega)]
  · rw [List.getElem?_eq_none (by rw [List.length_take]; omega)]
    by_cases e : j = i
    · rw [if_pos e, List.getElem?_eq_none (by simp; omega)]
    · rw [if_neg e, List.getElem?_eq_none (by rw [List.length_take]; omega)]
/-- The i-th element, two cells, is written over (d tells its elements' cells alone: hM). -/
theorem R_put2 {α : Type} {d : Kd α} (hsz : d.sz = 2) {f : α → Value × Value} (hM : ∀ w base ok x cs, d.M w base ok x cs ↔ cs = [(f x).1, (f x).2]) {e : TypeId} {w : World} {base g n cap : Nat} {ok : Nat → Prop} {xs : List α}
    (h : d.R e w base ok (.slice (some ⟨g, 0, none⟩) n cap) xs) (i : Nat) (hi : i < n) (x : α) :
    d.R e ((w.setCell ⟨g, 2 * i, none⟩ (f x).1).setCell ⟨g, 2 * i + 1, none⟩ (f x).2) base ok (.slice (some ⟨g, 0, none⟩) n cap) (xs.set i x) ∧ w.grownBy ((w.setCell ⟨g, 2 * i, none⟩ (f x).1).setCell ⟨g, 2 * i + 1, none⟩ (f x).2) (some g) := by
  obtain ⟨rfl, _⟩ := Kd.R_reads' h
  obtain ⟨h0, inner, hown, hr⟩ := h
  rw [hsz] at hown hr
  have s1 := hown.stored (2 * i) (f x).1
  have s2 := s1.1.stored (2 * i + 1) (f x).2
  refine ⟨⟨h0, (inner.set (2 * i) (f x).1).set (2 * i + 1) (f x).2, ?_, ?_⟩, World.grownBy.trans s1.2 s2.2⟩
  · rw [hsz, List.length_set]; exact s2.1
  · rw [hsz]
    refine ⟨by rw [List.length_set, List.length_set, List.length_set]; exact hr.1, fun j p hj => ?_⟩
    have hil : 2 * i + 1 < inner.length := by have := hr.1; omega
    rw [part_set inner i j _ _ hil]
    by_cases c : j = i
    · subst c
      rw [List.getElem?_set_self (by omega)] at hj
      cases hj
      rw [if_pos rfl, hM]
    · rw [List.getElem?_set_ne (fun h => c h.symm)] at hj
      rw [if_neg c]
      have h5 := hr.2 j p hj
      rw [hM] at h5 ⊢
      exact h5
/-- The places that a store of the i-th element meets. -/
theorem R_room2 {α : Type} {d : Kd α} (hsz : d.sz = 2) {e : TypeId} {w : World} {base g n cap : Nat} {ok : Nat → Prop} {xs : List α}
    (h : d.R e w base ok (.slice (some ⟨g, 0, none⟩) n cap) xs) (i : Nat) (hi : i < n) (u : Value) :
    ((∃ a, w.cell? ⟨g, i * 2, none⟩ = some a) ∧ w.frozen? ⟨g, i * 2, none⟩ = false) ∧ (∃ a, (w.setCell ⟨g, i * 2, none⟩ u).cell? ⟨g, i * 2 + 1, none⟩ = some a) ∧ (w.setCell ⟨g, i * 2, none⟩ u).frozen? ⟨g, i * 2 + 1, none⟩ = false := by
  obtain ⟨rfl, _⟩ := Kd.R_reads' h
  obtain ⟨h0, inner, hown, hr⟩ := h
  rw [hsz] at hown hr
  have s1 := hown.stored (i * 2) u
  have hl := hr.1
  have c1 := hown.cells (g := g) rfl (i * 2) _ (List.getElem?_eq_getElem (by omega))
  have c2 := s1.1.cells (g := g) rfl (i * 2 + 1) _ (List.getElem?_eq_getElem (by rw [List.length_set]; omega))
  rw [add0] at c1 c2
  exact ⟨⟨⟨_, c1⟩, World.ownsRow.frozenAt hown _⟩, ⟨_, c2⟩, World.ownsRow.frozenAt s1.1 _⟩
end Go.Proofs.Ytkefjoljokfieaa.Dk
