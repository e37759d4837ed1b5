/- What a call keeps that writes into an object's blocks: all other old blocks, the streams. No condition beyond those that each theorem names. -/
import Derived.Test.YtcghicmdphfodaaDoorWLast
import Derived.Test.YtcghicmdphfodaaDoorWMore
import Derived.Test.YtcghicmdphfodaaDoorWKept
set_option linter.unusedVariables false
namespace Go.Proofs.YtcghicmdphfodaaDoor.Ob
open Go.RowKit Go.Proofs.YtcghicmdphfodaaDoorW.PrintWords
structure Kp (w w' : World) (S : Nat → Prop) : Prop where
  os : w'.os = w.os
  tape : w'.tape = w.tape
  output : w'.output = w.output
  size : w.heap.size ≤ w'.heap.size
  keep : ∀ k, k < w.heap.size → ¬ S k → w'.heap[k]? = w.heap[k]?
section
variable {w w1 w2 : World} {S S2 : Nat → Prop} {B : Nat}
theorem Kp.refl (w : World) (S : Nat → Prop) : Kp w w S := ⟨rfl, rfl, rfl, Nat.le_refl _, fun _ _ _ => rfl⟩
theorem Kp.below (h : Below w.heap.size w w1) : Kp w w1 S := ⟨h.os, h.tape, h.output, h.size, fun k h1 _ => h.block k h1⟩
theorem Kp.trans (p : Kp w w1 S) (q : Kp w1 w2 S2) (hs : ∀ k, k < w.heap.size → S2 k → S k) : Kp w w2 S :=
  ⟨q.os.trans p.os, q.tape.trans p.tape, q.output.trans p.output, Nat.le_trans p.size q.size, fun k h1 h2 => (q.keep k (Nat.lt_of_lt_of_le h1 p.size) (fun h3 => h2 (hs k h1 h3))).trans (p.keep k h1 h2)⟩
theorem Kp.mono (p : Kp w w1 S) (hs : ∀ k, S k → S2 k) : Kp w w1 S2 := ⟨p.os, p.tape, p.output, p.size, fun k h1 h2 => p.keep k h1 (fun h3 => h2 (hs k h3))⟩
theorem Kp.then_below (p : Kp w w1 S) (h : Below w1.heap.size w1 w2) : Kp w w2 S := p.trans (Kp.below (S := fun _ => False) h) (fun _ _ h => h.elim)
theorem Kp.old (h : Below B w w1) (hB : B ≤ w1.heap.size) (k : Kp w1 w2 S) (hs : ∀ j, S j → B ≤ j) : Below B w w2 :=
  ⟨k.os.trans h.os, k.tape.trans h.tape, k.output.trans h.output, Nat.le_trans h.size k.size, fun i hi => (k.keep i (by omega) (fun h3 => by have := hs i h3; omega)).trans (h.block i hi)⟩
theorem Kp.set (p : Kp w w1 S) {a : Addr} (hS : S a.block ∨ w.heap.size ≤ a.block) (u : Value) : Kp w (w1.setCell a u) S :=
  ⟨p.os, p.tape, p.output, by simpa [World.setCell] using p.size, fun k h1 h2 => (Below.heap_setCell w1 a u k (by rintro rfl; rcases hS with h | h; exact h2 h; omega)).trans (p.keep k h1 h2)⟩
theorem Kp.grown (p : Kp w w1 S) {row : Option Nat} (hg : w1.grownBy w2 row) (hr : ∀ k, row = some k → S k ∨ w.heap.size ≤ k) : Kp w w2 S :=
  ⟨hg.os.trans p.os, hg.tape.trans p.tape, hg.output.trans p.output, Nat.le_trans p.size hg.size, fun k h1 h2 => (hg.block k (Nat.lt_of_lt_of_le h1 p.size) (fun e => by rcases hr k e.symm with h | h; exact h2 h; omega)).trans (p.keep k h1 h2)⟩
theorem Kp.drewN (p : Kp w w1 S) (n : Nat) : Kp w (w1.drewN n) S := ⟨p.os, p.tape, p.output, p.size, p.keep⟩
theorem blkLt {w : World} {k : Nat} {o : Obj} (h : w.heap[k]? = some o) : k < w.heap.size := by
  rcases Nat.lt_or_ge k w.heap.size with h1 | h1
  · exact h1
  · rw [Array.getElem?_eq_none h1] at h; cases h
end
end Go.Proofs.YtcghicmdphfodaaDoor.Ob
