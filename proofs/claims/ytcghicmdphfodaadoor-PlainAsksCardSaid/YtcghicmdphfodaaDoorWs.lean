/- A region that draws its order, whose calls wait for one another: walked once, in an order that is given, behind a wall. No condition beyond those that each theorem names; no program. -/
import Derived.Test.YtcghicmdphfodaaDoorWWords
import Derived.OrdersHeld
import Derived.Deep.RegionHeld
set_option linter.unusedVariables false
namespace Go.Proofs.YtcghicmdphfodaaDoor.Ws
open Go.RowKit
section
variable {P : Program} {ops : Array Oper} {Q : Exit → Act → World → Prop} {md : Region.Mode} {S : World → Prop}
/-- The walk in the order given: an operation that only yields (false), one that is run (true). -/
def wpS (P : Program) (ops : Array Oper) (Q : Exit → Act → World → Prop) (S : World → Prop) : List (Nat × Bool) → Act → World → Prop
  | [], a, w => Q .normal a w
  | (i, false) :: σ, a, w => ∃ oi v, ops[i]? = some oi ∧ YieldsIf P ops S oi v a ∧ S w ∧ wpS P ops Q S σ (a.put oi.dst v) w
  | (i, true) :: σ, a, w => wpOp P ops Q i (fun a' w' => S w' ∧ wpS P ops Q S σ a' w') a w
/-- The order may be taken. -/
def schedB (md : Region.Mode) (ops : Array Oper) : Array Bool → List (Nat × Bool) → Bool
  | l, [] => (Region.ready md ops l).isEmpty
  | l, (i, false) :: σ => Region.free md ops l i && (Region.ready md ops l).contains i && schedB md ops (l.setIfInBounds i true) σ
  | l, (i, true) :: σ => (Region.ready md ops l == [i]) && schedB md ops (l.setIfInBounds i true) σ
theorem held_of_sched (hsel : Region.noSelect ops = true) (hQ : ∀ c d v (a : Act) w, Q (.panic c) (a.put d v) w → Q (.panic c) a w) : ∀ (σ : List (Nat × Bool)) (fuel : Nat) (l : Array Bool) (a : Act) (w : World), σ.length ≤ fuel → schedB md ops l σ = true → wpS P ops Q S σ a w → wpAnyH P md ops Q S fuel l a w
  | [], fuel, l, a, w, _, hs, h => by
    have e : Region.ready md ops l = [] := List.isEmpty_iff.1 hs
    exact wpAnyH_done e h fuel
  | (i, false) :: σ, 0, l, a, w, hf, _, _ => absurd hf (Nat.not_succ_le_zero _)
  | (i, false) :: σ, fuel + 1, l, a, w, hf, hs, h => by
    obtain ⟨oi, v, hi, hy, hS, hn⟩ := h
    simp only [schedB, Bool.and_eq_true] at hs
    exact wpAnyH_take hi hsel hs.1.1 hs.1.2 (fun c a w => hQ c oi.dst v a w) hy hS (held_of_sched hsel hQ σ fuel _ _ _ (Nat.le_of_succ_le_succ hf) hs.2 hn)
  | (i, true) :: σ, 0, l, a, w, hf, _, _ => absurd hf (Nat.not_succ_le_zero _)
  | (i, true) :: σ, fuel + 1, l, a, w, hf, hs, h => by
    simp only [schedB, Bool.and_eq_true, beq_iff_eq] at hs
    refine wpAnyH_all hs.1 (by simp) (fun j hj => ?_)
    have e : j = i := by simpa using hj
    subst e
    exact wpOp_mono (fun a' w' h' => ⟨h'.1, held_of_sched hsel hQ σ fuel _ a' w' (Nat.le_of_succ_le_succ hf) hs.2 h'.2⟩) h
/-- The walk behind a wall. -/
structure WS (P : Program) (ops : Array Oper) (Q : Exit → Act → World → Prop) (S : World → Prop) (σ : List (Nat × Bool)) (a : Act) (w : World) : Prop where
  out : wpS P ops Q S σ a w
def yAt (w : World) (v : Value) : Result Next → Prop
  | .ok (.value u) w' => w' = w ∧ u = v
  | _ => False
def yq (P : Program) (o : Oper) (a : Act) (K : Act → Prop) : Prop := ∃ v, (∀ w : World, yAt w v ((execOp a.eval o).run P w)) ∧ K (a.put o.dst v)
theorem yAt_run {w : World} {v : Value} {r : Result Next} (h : yAt w v r) : r = .ok (.value v) w := by
  match r, h with
  | .ok (.value u) w', ⟨e1, e2⟩ => rw [e1, e2]
/-- The beginning. -/
theorem region_ws {id : Nat} {a : Act} {w : World} {l : List Oper} (σ : List (Nat × Bool)) (S : World → Prop) (hm : P.follows .mixedOrders = true) (hB : (Region.noSelect l.toArray && (schedB .any l.toArray (Array.replicate l.toArray.size false) σ && decide (σ.length ≤ l.toArray.size))) = true)
    (hQ : ∀ c d v (a : Act) w, Q (.panic c) (a.put d v) w → Q (.panic c) a w) (h : WS P l.toArray Q S σ a w.drew) : (Code.region id l.toArray true).wp P Q a w := by
  simp only [Bool.and_eq_true, decide_eq_true_eq] at hB
  exact wp_region_held hm (held_of_sched hB.1 hQ σ _ _ _ _ hB.2.2 hB.2.1 h.out)
theorem WS.nil {a : Act} {w : World} (h : Q .normal a w) : WS P ops Q S [] a w := ⟨h⟩
/-- An operation that yields its value in whatever world, or that its guard passes over. -/
theorem WS.y {i : Nat} {σ : List (Nat × Bool)} {oi : Oper} {a : Act} {w : World} (hi : ops[i]? = some oi) (hS : S w)
    (h : ∀ K : Act → Prop, (∀ a, WS P ops Q S σ a w → K a) → if Region.wanted oi (yielded ops a.tmps) = true then yq P oi a K else K (a.put oi.dst undef)) : WS P ops Q S ((i, false) :: σ) a w := by
  have h1 := h (fun a => WS P ops Q S σ a w) (fun a h => h)
  by_cases c : Region.wanted oi (yielded ops a.tmps) = true
  · rw [if_pos c] at h1
    obtain ⟨v, hv, hn⟩ := h1
    exact ⟨oi, v, hi, .inl ⟨c, fun w' _ => yAt_run (hv w')⟩, hS, hn.out⟩
  · rw [if_neg c] at h1
    exact ⟨oi, undef, hi, .inr ⟨by simpa using c, rfl⟩, hS, h1.out⟩
/-- An operation that yields its value in the worlds that meet S. -/
theorem WS.l {i : Nat} {σ : List (Nat × Bool)} {oi : Oper} {a : Act} {w : World} (v : Value) (hi : ops[i]? = some oi) (hS : S w) (hw : Region.wanted oi (yielded ops a.tmps) = true) (hv : ∀ w, S w → (execOp a.eval oi).run P w = .ok (.value v) w)
    (h : ∀ K : Act → Prop, (∀ a, WS P ops Q S σ a w → K a) → K (a.put oi.dst v)) : WS P ops Q S ((i, false) :: σ) a w :=
  ⟨oi, v, hi, .inl ⟨hw, hv⟩, hS, (h (fun a => WS P ops Q S σ a w) (fun a h => h)).out⟩
/-- An operation that its guard passes over. -/
theorem WS.s {i : Nat} {σ : List (Nat × Bool)} {oi : Oper} {a : Act} {w : World} (hi : ops[i]? = some oi) (hS : S w) (hw : Region.wanted oi (yielded ops a.tmps) = false)
    (h : ∀ K : Act → Prop, (∀ a, WS P ops Q S σ a w → K a) → K (a.put oi.dst undef)) : WS P ops Q S ((i, false) :: σ) a w :=
  ⟨oi, undef, hi, .inr ⟨hw, rfl⟩, hS, (h (fun a => WS P ops Q S σ a w) (fun a h => h)).out⟩
/-- An operation that is run. -/
theorem WS.c {i : Nat} {σ : List (Nat × Bool)} {oi : Oper} {a : Act} {w : World} (hi : ops[i]? = some oi)
    (h : ∀ K' : Act → World → Prop, Shut (∀ a w, S w → WS P ops Q S σ a w → K' a w) → if Region.wanted oi (yielded ops a.tmps) = true then Oper.wp P oi a w K' Q else K' (a.put oi.dst undef) w) : WS P ops Q S ((i, true) :: σ) a w :=
  ⟨wpOp_step hi (fun K' hK => h K' (fun a w hS hW => hK a w ⟨hS, hW.out⟩))⟩
end
end Go.Proofs.YtcghicmdphfodaaDoor.Ws
