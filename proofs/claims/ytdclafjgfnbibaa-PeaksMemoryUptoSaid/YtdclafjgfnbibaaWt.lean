/- A region that draws its order, walked along a tree of orders, behind a wall: where two operations may come up, both ways. No condition beyond those that each theorem names; no program. -/
import Derived.Test.YtdclafjgfnbibaaWs
set_option linter.unusedVariables false
namespace Go.Proofs.Ytdclafjgfnbibaa.Ws
open Go.RowKit
/-- A tree of orders: an operation that only yields (y), one that is run (c), two that may come up (two). -/
inductive Sch where
  | nil
  | y (i : Nat) (σ : Sch)
  | c (i : Nat) (σ : Sch)
  | two (i : Nat) (σ : Sch) (j : Nat) (τ : Sch)
def Sch.deep : Sch → Nat
  | .nil => 0
  | .y _ σ => σ.deep + 1
  | .c _ σ => σ.deep + 1
  | .two _ σ _ τ => max σ.deep τ.deep + 1
section
variable {P : Program} {ops : Array Oper} {Q : Exit → Act → World → Prop} {md : Region.Mode} {S : World → Prop}
def wpT (P : Program) (ops : Array Oper) (Q : Exit → Act → World → Prop) (S : World → Prop) : Sch → Act → World → Prop
  | .nil, a, w => Q .normal a w
  | .y i σ, a, w => ∃ oi v, ops[i]? = some oi ∧ YieldsIf P ops S oi v a ∧ S w ∧ wpT P ops Q S σ (a.put oi.dst v) w
  | .c i σ, a, w => wpOp P ops Q i (fun a' w' => S w' ∧ wpT P ops Q S σ a' w') a w
  | .two i σ j τ, a, w => wpOp P ops Q i (fun a' w' => S w' ∧ wpT P ops Q S σ a' w') a w ∧ wpOp P ops Q j (fun a' w' => S w' ∧ wpT P ops Q S τ a' w') a w
def schT (md : Region.Mode) (ops : Array Oper) : Array Bool → Sch → Bool
  | l, .nil => (Region.ready md ops l).isEmpty
  | l, .y i σ => Region.free md ops l i && (Region.ready md ops l).contains i && schT md ops (l.setIfInBounds i true) σ
  | l, .c i σ => (Region.ready md ops l == [i]) && schT md ops (l.setIfInBounds i true) σ
  | l, .two i σ j τ => (Region.ready md ops l == [i, j]) && (schT md ops (l.setIfInBounds i true) σ && schT md ops (l.setIfInBounds j true) τ)
theorem held_of_tree (hsel : Region.noSelect ops = true) (hQ : ∀ c d v (a : Act) w, Q (.panic c) (a.put d v) w → Q (.panic c) a w) : ∀ (σ : Sch) (fuel : Nat) (l : Array Bool) (a : Act) (w : World), σ.deep ≤ fuel → schT md ops l σ = true → wpT P ops Q S σ a w → wpAnyH P md ops Q S fuel l a w
  | .nil, fuel, l, a, w, _, hs, h => by
    have e : Region.ready md ops l = [] := List.isEmpty_iff.1 hs
    exact wpAnyH_done e h fuel
  | .y i σ, 0, l, a, w, hf, _, _ => absurd hf (Nat.not_succ_le_zero _)
  | .y i σ, fuel + 1, l, a, w, hf, hs, h => by
    obtain ⟨oi, v, hi, hy, hS, hn⟩ := h
    simp only [schT, Bool.and_eq_true] at hs
    exact wpAnyH_take hi hsel hs.1.1 hs.1.2 (fun c a w => hQ c oi.dst v a w) hy hS (held_of_tree hsel hQ σ fuel _ _ _ (Nat.le_of_succ_le_succ hf) hs.2 hn)
  | .c i σ, 0, l, a, w, hf, _, _ => absurd hf (Nat.not_succ_le_zero _)
  | .c i σ, fuel + 1, l, a, w, hf, hs, h => by
    simp only [schT, Bool.and_eq_true, beq_iff_eq] at hs
    refine wpAnyH_all hs.1 (by simp) (fun j hj => ?_)
    have e : j = i := by simpa using hj
    subst e
    exact wpOp_mono (fun a' w' h' => ⟨h'.1, held_of_tree hsel hQ σ fuel _ a' w' (Nat.le_of_succ_le_succ hf) hs.2 h'.2⟩) h
  | .two i σ j τ, 0, l, a, w, hf, _, _ => absurd hf (Nat.not_succ_le_zero _)
  | .two i σ j τ, fuel + 1, l, a, w, hf, hs, h => by
    simp only [schT, Bool.and_eq_true, beq_iff_eq] at hs
    have hd : max σ.deep τ.deep ≤ fuel := Nat.le_of_succ_le_succ hf
    refine wpAnyH_all hs.1 (by simp) (fun k hk => ?_)
    rcases List.mem_cons.1 hk with e | e
    · subst e
      exact wpOp_mono (fun a' w' h' => ⟨h'.1, held_of_tree hsel hQ σ fuel _ a' w' (Nat.le_trans (Nat.le_max_left _ _) hd) hs.2.1 h'.2⟩) h.1
    · have e : k = j := by simpa using e
      subst e
      exact wpOp_mono (fun a' w' h' => ⟨h'.1, held_of_tree hsel hQ τ fuel _ a' w' (Nat.le_trans (Nat.le_max_right _ _) hd) hs.2.2 h'.2⟩) h.2
structure WT (P : Program) (ops : Array Oper) (Q : Exit → Act → World → Prop) (S : World → Prop) (σ : Sch) (a : Act) (w : World) : Prop where
  out : wpT P ops Q S σ a w
theorem region_wt {id : Nat} {a : Act} {w : World} {l : List Oper} (σ : Sch) (S : World → Prop) (hm : P.follows .mixedOrders = true) (hB : (Region.noSelect l.toArray && (schT .any l.toArray (Array.replicate l.toArray.size false) σ && decide (σ.deep ≤ l.toArray.size))) = true)
    (hQ : ∀ c d v (a : Act) w, Q (.panic c) (a.put d v) w → Q (.panic c) a w) (h : WT P l.toArray Q S σ a w.drew) : (Code.region id l.toArray true).wp P Q a w := by
  simp only [Bool.and_eq_true, decide_eq_true_eq] at hB
  exact wp_region_held hm (held_of_tree hB.1 hQ σ _ _ _ _ hB.2.2 hB.2.1 h.out)
theorem WT.nil {a : Act} {w : World} (h : Q .normal a w) : WT P ops Q S .nil a w := ⟨h⟩
theorem WT.y {i : Nat} {σ : Sch} {oi : Oper} {a : Act} {w : World} (hi : ops[i]? = some oi) (hS : S w) (hw : Region.wanted oi (yielded ops a.tmps) = true)
    (h : ∀ K : Act → Prop, (∀ a, WT P ops Q S σ a w → K a) → yq P oi a K) : WT P ops Q S (.y i σ) a w := by
  obtain ⟨v, hv, hn⟩ := h (fun a => WT P ops Q S σ a w) (fun a h => h)
  exact ⟨oi, v, hi, .inl ⟨hw, fun w' _ => yAt_run (hv w')⟩, hS, hn.out⟩
theorem WT.s {i : Nat} {σ : Sch} {oi : Oper} {a : Act} {w : World} (hi : ops[i]? = some oi) (hS : S w) (hw : Region.wanted oi (yielded ops a.tmps) = false)
    (h : ∀ K : Act → Prop, (∀ a, WT P ops Q S σ a w → K a) → K (a.put oi.dst undef)) : WT P ops Q S (.y i σ) a w :=
  ⟨oi, undef, hi, .inr ⟨hw, rfl⟩, hS, (h (fun a => WT P ops Q S σ a w) (fun a h => h)).out⟩
theorem WT.l {i : Nat} {σ : Sch} {oi : Oper} {a : Act} {w : World} (v : Value) (hi : ops[i]? = some oi) (hS : S w) (hw : Region.wanted oi (yielded ops a.tmps) = true) (hv : ∀ w, S w → (execOp a.eval oi).run P w = .ok (.value v) w)
    (h : ∀ K : Act → Prop, (∀ a, WT P ops Q S σ a w → K a) → K (a.put oi.dst v)) : WT P ops Q S (.y i σ) a w :=
  ⟨oi, v, hi, .inl ⟨hw, hv⟩, hS, (h (fun a => WT P ops Q S σ a w) (fun a h => h)).out⟩
theorem op_step {i : Nat} {σ : Sch} {oi : Oper} {a : Act} {w : World} (hi : ops[i]? = some oi) (hw : Region.wanted oi (yielded ops a.tmps) = true)
    (h : ∀ K' : Act → World → Prop, Shut (∀ a w, S w → WT P ops Q S σ a w → K' a w) → Oper.wp P oi a w K' Q) : wpOp P ops Q i (fun a' w' => S w' ∧ wpT P ops Q S σ a' w') a w :=
  wpOp_step hi (fun K' hK => by rw [if_pos hw]; exact h K' (fun a w hS hW => hK a w ⟨hS, hW.out⟩))
theorem WT.c {i : Nat} {σ : Sch} {oi : Oper} {a : Act} {w : World} (hi : ops[i]? = some oi) (hw : Region.wanted oi (yielded ops a.tmps) = true)
    (h : ∀ K' : Act → World → Prop, Shut (∀ a w, S w → WT P ops Q S σ a w → K' a w) → Oper.wp P oi a w K' Q) : WT P ops Q S (.c i σ) a w := ⟨op_step hi hw h⟩
theorem WT.two {i j : Nat} {σ τ : Sch} {oi oj : Oper} {a : Act} {w : World} (hi : ops[i]? = some oi) (hj : ops[j]? = some oj) (hw : Region.wanted oi (yielded ops a.tmps) = true) (hv : Region.wanted oj (yielded ops a.tmps) = true)
    (h : ∀ K' : Act → World → Prop, Shut (∀ a w, S w → WT P ops Q S σ a w → K' a w) → Oper.wp P oi a w K' Q)
    (h2 : ∀ K' : Act → World → Prop, Shut (∀ a w, S w → WT P ops Q S τ a w → K' a w) → Oper.wp P oj a w K' Q) : WT P ops Q S (.two i σ j τ) a w := ⟨op_step hi hw h, op_step hj hv h2⟩
end
end Go.Proofs.Ytdclafjgfnbibaa.Ws
