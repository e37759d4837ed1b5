/- Written by a program of this session over the translation: functions, their walks, rows. No condition beyond those that each theorem names. -/
import Derived.Test.YtlbehenaoiddkaaPPlacePostorderx0
import Derived.Test.YtlbehenaoiddkaaPPlacePostorderx1
import Derived.Test.YtlbehenaoiddkaaPPlacePostorderx2
import Derived.Test.YtlbehenaoiddkaaPPlacePostorderx3
namespace Go.Proofs.Ytlbehenaoiddkaa.PPlacePostorder
open Go.RowKit Go.Proofs.YtlbehenaoiddkaaW.PrintWords Go.Proofs.YtlbehenaoiddkaaW.PrintLast Go.Proofs.YtlbehenaoiddkaaW.PrintMore
attribute [local go_sem] max2_int min2_int max_two min_two max_three min_three max_four min_four   -- for this text's walks alone
set_option linter.unusedVariables false
set_option linter.unusedSimpArgs false

attribute [local go_sem high] eqA24
/-! ### massiflaw03_PlacePostorder: function 6 -/
mutual
def massiflaw03_PlacePostorder.j0 : Nat → Int → Bool → Int → Int → Option (Bool)
  | 0, _, _, _, _ => none
  | k + 1, x4, x54, x173000, x173001 => if x54 = true then (some false) else (if 0 ≤ (IntKind.u64.wrap (x173000)) then ((place_Block.f k (IntKind.u64.wrap (x4 - (IntKind.u64.wrap ((shl .u64 2 (IntKind.u64.wrap (x173000))) - 2))))).bind fun bt177 => ((place_Leaf.f k (shl .u64 x173001 (IntKind.u64.wrap (x173000)))).bind fun bt181 => (if bt177.2.2 = true then (if bt181.2 = true then (if (!(bt177.1 == 0) || (!(bt177.2.1 == (shl .u64 x173001 (IntKind.u64.wrap (x173000)))))) = true then (massiflaw03_PlacePostorder.j1 k x4 true x173000 x173001) else (massiflaw03_PlacePostorder.j1 k x4 (bt181.1 != (IntKind.u64.wrap (x4 - (IntKind.u64.wrap ((shl .u64 2 (IntKind.u64.wrap (x173000))) - 2))))) x173000 x173001)) else (massiflaw03_PlacePostorder.j1 k x4 true x173000 x173001)) else (massiflaw03_PlacePostorder.j1 k x4 true x173000 x173001)))) else (none))
def massiflaw03_PlacePostorder.j1 : Nat → Int → Bool → Int → Int → Option (Bool)
  | 0, _, _, _, _ => none
  | k + 1, x4, x98, x173000, x173001 => if x98 = true then (some false) else (if x173000 > 0 then ((place_Of.f k (wrap64 (x173000 - 1)) (IntKind.u64.wrap (2 * x173001))).bind fun bt183 => ((place_Of.f k (wrap64 (x173000 - 1)) (IntKind.u64.wrap ((IntKind.u64.wrap (2 * x173001)) + 1))).bind fun bt185 => ((place_Parent.f k bt183.1).bind fun bt187 => ((place_Parent.f k bt185.1).bind fun bt189 => ((place_Sibling.f k bt183.1).bind fun bt191 => ((place_Sibling.f k bt185.1).bind fun bt193 => (if bt183.2 = true then (if bt185.2 = true then (if bt187.2 = true then (if bt189.2 = true then (if bt191.2 = true then (if bt193.2 = true then (if bt185.1 = (IntKind.u64.wrap (x4 - 1)) then (if 0 ≤ (IntKind.u64.wrap (x173000)) then (if bt183.1 = (IntKind.u64.wrap (x4 - (shl .u64 1 (IntKind.u64.wrap (x173000))))) then (if bt187.1 = x4 then (if bt189.1 = x4 then (if bt191.1 = bt185.1 then (massiflaw03_PlacePostorder.j2 k x4 (bt193.1 != bt183.1) x173000 x173001) else (massiflaw03_PlacePostorder.j2 k x4 true x173000 x173001)) else (massiflaw03_PlacePostorder.j2 k x4 true x173000 x173001)) else (massiflaw03_PlacePostorder.j2 k x4 true x173000 x173001)) else (massiflaw03_PlacePostorder.j2 k x4 true x173000 x173001)) else (none)) else (massiflaw03_PlacePostorder.j2 k x4 true x173000 x173001)) else (massiflaw03_PlacePostorder.j2 k x4 true x173000 x173001)) else (massiflaw03_PlacePostorder.j2 k x4 true x173000 x173001)) else (massiflaw03_PlacePostorder.j2 k x4 true x173000 x173001)) else (massiflaw03_PlacePostorder.j2 k x4 true x173000 x173001)) else (massiflaw03_PlacePostorder.j2 k x4 true x173000 x173001)) else (massiflaw03_PlacePostorder.j2 k x4 true x173000 x173001)))))))) else ((place_Parent.f k x4).bind fun bt199 => ((place_Sibling.f k x4).bind fun bt201 => (if (bt199.2 == (decide (x173000 < 40))) = true then (some (bt201.2 == bt199.2)) else (some false)))))
def massiflaw03_PlacePostorder.j2 : Nat → Int → Bool → Int → Int → Option (Bool)
  | 0, _, _, _, _ => none
  | k + 1, x4, x202, x173000, x173001 => if x202 = true then (some false) else ((place_Parent.f k x4).bind fun bt195 => ((place_Sibling.f k x4).bind fun bt197 => (if (bt195.2 == (decide (x173000 < 40))) = true then (some (bt197.2 == bt195.2)) else (some false))))
end
def massiflaw03_PlacePostorder.f (k : Nat) (a0_0 : Int) (a0_1 : Int) : Option (Bool) := (massiflaw03_alive.f k).bind fun t169 => (if t169 = true then ((massiflaw03_bent.f a0_0 a0_1).bind fun bt170 => ((place_Of.f k bt170.1 bt170.2).bind fun bt173 => ((place_Height.f k bt173.1).bind fun bt175 => (if bt173.2 = true then (if bt175.2 = true then (massiflaw03_PlacePostorder.j0 k bt173.1 (bt175.1 != bt170.1) bt170.1 bt170.2) else (massiflaw03_PlacePostorder.j0 k bt173.1 true bt170.1 bt170.2)) else (massiflaw03_PlacePostorder.j0 k bt173.1 true bt170.1 bt170.2))))) else (some false))
theorem massiflaw03_PlacePostorder.mono_l : ∀ k, (∀ y0 y1 y2 y3, LeO (massiflaw03_PlacePostorder.j0 k y0 y1 y2 y3) (massiflaw03_PlacePostorder.j0 (k + 1) y0 y1 y2 y3)) ∧ (∀ y0 y1 y2 y3, LeO (massiflaw03_PlacePostorder.j1 k y0 y1 y2 y3) (massiflaw03_PlacePostorder.j1 (k + 1) y0 y1 y2 y3)) ∧ (∀ y0 y1 y2 y3, LeO (massiflaw03_PlacePostorder.j2 k y0 y1 y2 y3) (massiflaw03_PlacePostorder.j2 (k + 1) y0 y1 y2 y3))
  | 0 => ⟨fun _ _ _ _ r h => by simp [massiflaw03_PlacePostorder.j0] at h, fun _ _ _ _ r h => by simp [massiflaw03_PlacePostorder.j1] at h, fun _ _ _ _ r h => by simp [massiflaw03_PlacePostorder.j2] at h⟩
  | k + 1 => by
    obtain ⟨ih0, ih1, ih2⟩ := massiflaw03_PlacePostorder.mono_l k
    refine ⟨?_, ?_, ?_⟩
    · intro y0 y1 y2 y3
      unfold massiflaw03_PlacePostorder.j0
      repeat' first
      | (with_reducible exact ih0 _ _ _ _)
      | (with_reducible exact ih1 _ _ _ _)
      | (with_reducible exact ih2 _ _ _ _)
      | (with_reducible exact massiflaw03_alive.mono _)
      | (with_reducible exact place_Block.mono _ _)
      | (with_reducible exact place_Height.mono _ _)
      | (with_reducible exact place_Leaf.mono _ _)
      | (with_reducible exact place_Of.mono _ _ _)
      | (with_reducible exact place_Parent.mono _ _)
      | (with_reducible exact place_Sibling.mono _ _)
      | (with_reducible exact LeO.refl _)
      | (with_reducible exact LeO.none _)
      | (with_reducible refine LeO.ite ?_ ?_)
      | (with_reducible refine LeO.bind ?_ (fun _ => ?_))
      | exact ih0 _ _ _ _
      | exact ih1 _ _ _ _
      | exact ih2 _ _ _ _
      | exact massiflaw03_alive.mono _
      | exact place_Block.mono _ _
      | exact place_Height.mono _ _
      | exact place_Leaf.mono _ _
      | exact place_Of.mono _ _ _
      | exact place_Parent.mono _ _
      | exact place_Sibling.mono _ _
      | exact LeO.none _
      | refine LeO.ite ?_ ?_
      | refine LeO.bind ?_ (fun _ => ?_)
    · intro y0 y1 y2 y3
      unfold massiflaw03_PlacePostorder.j1
      repeat' first
      | (with_reducible exact ih0 _ _ _ _)
      | (with_reducible exact ih1 _ _ _ _)
      | (with_reducible exact ih2 _ _ _ _)
      | (with_reducible exact massiflaw03_alive.mono _)
      | (with_reducible exact place_Block.mono _ _)
      | (with_reducible exact place_Height.mono _ _)
      | (with_reducible exact place_Leaf.mono _ _)
      | (with_reducible exact place_Of.mono _ _ _)
      | (with_reducible exact place_Parent.mono _ _)
      | (with_reducible exact place_Sibling.mono _ _)
      | (with_reducible exact LeO.refl _)
      | (with_reducible exact LeO.none _)
      | (with_reducible refine LeO.ite ?_ ?_)
      | (with_reducible refine LeO.bind ?_ (fun _ => ?_))
      | exact ih0 _ _ _ _
      | exact ih1 _ _ _ _
      | exact ih2 _ _ _ _
      | exact massiflaw03_alive.mono _
      | exact place_Block.mono _ _
      | exact place_Height.mono _ _
      | exact place_Leaf.mono _ _
      | exact place_Of.mono _ _ _
      | exact place_Parent.mono _ _
      | exact place_Sibling.mono _ _
      | exact LeO.none _
      | refine LeO.ite ?_ ?_
      | refine LeO.bind ?_ (fun _ => ?_)
    · intro y0 y1 y2 y3
      unfold massiflaw03_PlacePostorder.j2
      repeat' first
      | (with_reducible exact ih0 _ _ _ _)
      | (with_reducible exact ih1 _ _ _ _)
      | (with_reducible exact ih2 _ _ _ _)
      | (with_reducible exact massiflaw03_alive.mono _)
      | (with_reducible exact place_Block.mono _ _)
      | (with_reducible exact place_Height.mono _ _)
      | (with_reducible exact place_Leaf.mono _ _)
      | (with_reducible exact place_Of.mono _ _ _)
      | (with_reducible exact place_Parent.mono _ _)
      | (with_reducible exact place_Sibling.mono _ _)
      | (with_reducible exact LeO.refl _)
      | (with_reducible exact LeO.none _)
      | (with_reducible refine LeO.ite ?_ ?_)
      | (with_reducible refine LeO.bind ?_ (fun _ => ?_))
      | exact ih0 _ _ _ _
      | exact ih1 _ _ _ _
      | exact ih2 _ _ _ _
      | exact massiflaw03_alive.mono _
      | exact place_Block.mono _ _
      | exact place_Height.mono _ _
      | exact place_Leaf.mono _ _
      | exact place_Of.mono _ _ _
      | exact place_Parent.mono _ _
      | exact place_Sibling.mono _ _
      | exact LeO.none _
      | refine LeO.ite ?_ ?_
      | refine LeO.bind ?_ (fun _ => ?_)
theorem massiflaw03_PlacePostorder.mono : ∀ a0 a1 k, LeO (massiflaw03_PlacePostorder.f k a0 a1) (massiflaw03_PlacePostorder.f (k + 1) a0 a1) := by
  intro a0 a1 k
  obtain ⟨ih0, ih1, ih2⟩ := massiflaw03_PlacePostorder.mono_l k
  unfold massiflaw03_PlacePostorder.f
  repeat' first
      | (with_reducible exact ih0 _ _ _ _)
      | (with_reducible exact ih1 _ _ _ _)
      | (with_reducible exact ih2 _ _ _ _)
      | (with_reducible exact massiflaw03_alive.mono _)
      | (with_reducible exact place_Block.mono _ _)
      | (with_reducible exact place_Height.mono _ _)
      | (with_reducible exact place_Leaf.mono _ _)
      | (with_reducible exact place_Of.mono _ _ _)
      | (with_reducible exact place_Parent.mono _ _)
      | (with_reducible exact place_Sibling.mono _ _)
      | (with_reducible exact LeO.refl _)
      | (with_reducible exact LeO.none _)
      | (with_reducible refine LeO.ite ?_ ?_)
      | (with_reducible refine LeO.bind ?_ (fun _ => ?_))
      | exact ih0 _ _ _ _
      | exact ih1 _ _ _ _
      | exact ih2 _ _ _ _
      | exact massiflaw03_alive.mono _
      | exact place_Block.mono _ _
      | exact place_Height.mono _ _
      | exact place_Leaf.mono _ _
      | exact place_Of.mono _ _ _
      | exact place_Parent.mono _ _
      | exact place_Sibling.mono _ _
      | exact LeO.none _
      | refine LeO.ite ?_ ?_
      | refine LeO.bind ?_ (fun _ => ?_)
end Go.Proofs.Ytlbehenaoiddkaa.PPlacePostorder
