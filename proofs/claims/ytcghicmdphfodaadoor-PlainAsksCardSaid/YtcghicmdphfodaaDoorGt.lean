/- A door seat's laid tables: what the condition gives the walks, and that the door's own heap meets it. No condition beyond those that each theorem names. -/
import Derived.Test.YtcghicmdphfodaaDoorRows
import Derived.Test.YtcghicmdphfodaaDoorRf1
import Derived.ProofKit
import Derived.LaidMore
import Derived.OpenShut
import Derived.Stop.Joined
set_option linter.unusedVariables false
namespace Go.Proofs.YtcghicmdphfodaaDoor.Gt
open Go.ChangeShapes Go.WideShapes Go.ChangeAt Go.WideMaps Go.WideElems Go.RowKit
theorem gFirst : Tryd.prog.globalNamed "massif/massifref01.first" = some 0 := by kernel_rfl
theorem gRounds : Tryd.prog.globalNamed "massif/massifref01.rounds" = some 1 := by kernel_rfl
theorem tFirst : (Tryd.prog.globals[0]?).map (·.type) = some 62 := by kernel_rfl
theorem tRounds : (Tryd.prog.globals[1]?).map (·.type) = some 67 := by kernel_rfl
def laid2 {H : Type} : List (String × DataW H) := [("massif/massifref01.first", Rows.laid_massif_massifref01_first), ("massif/massifref01.rounds", Rows.laid_massif_massifref01_rounds)]
theorem first_is {H : Type} : (Rows.laid_massif_massifref01_first : DataW H) = .agg (Sha.H8.map fun k => .lit (.int .u32 k)) := by rfl
theorem rounds_is {H : Type} : (Rows.laid_massif_massifref01_rounds : DataW H) = .agg (Sha.K64.map fun k => .lit (.int .u32 k)) := by rfl
theorem trod_u32s {H : Type} {enc : TypeId × Value → H} {P : Program} {W : World} {base fuel n : Nat} {spare : Nat → Bool} {held : Bool} {t e : TypeId} {cs : List Value} {L : List Int} {ps : List MemPlace} (ht : P.underlying t = some (.array n e)) (he : P.underlying e = some (.int .u32)) (hc : P.cellsOf e = 1)
    (h : DataW.trod enc P W base spare held fuel t cs = some (.agg (L.map fun k => .lit (.int .u32 k)), ps)) (hn : L.length = n) : ∀ j, j < n → cs[j]? = some (.int .u32 (L.getD j 0)) := by
  obtain ⟨xs, m, rfl, hx, hl, hxn, hel⟩ := DataW.trod_array ht h
  intro j hj
  have h0 := hel j hj
  rw [hc, Nat.mul_one, List.getElem?_eq_getElem (by omega)] at h0
  obtain ⟨hx1, _⟩ := Prod.mk.inj hx
  injection hx1 with hx2
  obtain ⟨k, e1, e2, _⟩ := DataW.trod_int he h0
  have h3 : (xs.map (·.1))[j]? = some (.lit (.int .u32 (L.getD j 0))) := by
    rw [← hx2, List.getElem?_map, List.getD_eq_getElem?_getD, List.getElem?_eq_getElem (by omega)]; rfl
  rw [List.getElem?_map, List.getElem?_eq_getElem (by omega), Option.map_some, e2] at h3
  have hk : k = L.getD j 0 := by
    have h4 := Option.some.inj h3
    injection h4 with h5
    injection h5
  have h6 : ((cs.drop j).take 1)[0]? = some (.int .u32 k) := by rw [e1]; rfl
  rw [List.getElem?_take_of_lt (by omega), List.getElem?_drop, Nat.add_zero] at h6
  rw [h6, hk]
theorem of_laid {W : World} (h : laidMetH Tryd.prog laid2 W) : Sha.Gl W := by
  rw [MakeChecks.laidMetH_plain _ _ _ (by kernel_rfl)] at h
  obtain ⟨ps, ⟨g0, t0, cs0, f0, p0, q0, hg0, ht0, hv0, hd0, ⟨g1, t1, cs1, f1, p1, q1, hg1, ht1, hv1, hd1, _, _⟩, _⟩, _, _⟩ := h
  obtain rfl := Option.some.inj (gFirst.symm.trans hg0)
  obtain rfl := Option.some.inj (gRounds.symm.trans hg1)
  obtain rfl := Option.some.inj (tFirst.symm.trans ht0)
  obtain rfl := Option.some.inj (tRounds.symm.trans ht1)
  rw [first_is] at hd0
  rw [rounds_is] at hd1
  have k0 := trod_u32s Tryd.underlying62 Tryd.underlying61 (by kernel_rfl) hd0 rfl
  have k1 := trod_u32s Tryd.underlying67 Tryd.underlying61 (by kernel_rfl) hd1 rfl
  exact ⟨fun j hj => by rw [World.var?_cell hg0 hv0 j, ← k0 j hj, Array.getElem?_toList], fun j hj => by rw [World.var?_cell hg1 hv1 j, ← k1 j hj, Array.getElem?_toList]⟩
/-- A world for the witness of a second form: the settled one, the two tables laid. -/
noncomputable def laidWorld (os : Os) : World :=
  { World.holding Tryd.prog os ⟨#[], #[], []⟩ with heap := (((World.holding Tryd.prog os ⟨#[], #[], []⟩).heap.modify 0 fun
      | .cells _ t frozen => .cells (Sha.wc Sha.H8) t frozen
      | o => o).modify 1 fun
      | .cells _ t frozen => .cells (Sha.wc Sha.K64) t frozen
      | o => o) }
/-- The door's own heap meets the condition. -/
theorem door_met (os : Os) (args : Array Value) : laidMetH Tryd.prog laid2 ((World.doorLaid Tryd.prog 400 os).forCall (fun _ _ => 0) ⟨#[], args, []⟩).memory :=
  laidMetH_of_parts3 (fuel := 8) (laidMet_of_run' 8 (by kernel_rfl) (by kernel_rfl)) (by kernel_rfl) (by kernel_rfl)
end Go.Proofs.YtcghicmdphfodaaDoor.Gt
