/- Written by a program of this session over the translation: functions, their walks, rows. No condition beyond those that each theorem names. -/
import Derived.Test.YtjabaolcphhjkaaPCoverLeavesx0
import Derived.Test.YtjabaolcphhjkaaPCoverLeavesx3
import Derived.Test.YtjabaolcphhjkaaPCoverLeavesx4
import Derived.Test.YtjabaolcphhjkaaPCoverLeavesx5
import Derived.Test.YtjabaolcphhjkaaPCoverLeavesXCount
import Derived.Test.YtjabaolcphhjkaaPCoverLeavesXRange
import Derived.Test.YtjabaolcphhjkaaPCoverLeavesXRest
namespace Go.Proofs.Ytjabaolcphhjkaa.PCoverLeaves
open Go.RowKit Go.Proofs.YtjabaolcphhjkaaW.PrintWords Go.Proofs.YtjabaolcphhjkaaW.PrintLast Go.Proofs.YtjabaolcphhjkaaW.PrintMore
attribute [local go_sem] max2_int min2_int max_two min_two max_three min_three max_four min_four   -- for this text's walks alone
set_option linter.unusedVariables false
set_option linter.unusedSimpArgs false

/-! ### massiflaw04_CoverLeaves: function 6 -/
mutual
def massiflaw04_CoverLeaves.j0 : Nat → Int → List Int → List (S43) → Bool → Option (Bool)
  | 0, _, _, _, _ => none
  | k + 1, x5, x6, x7, x74 => if x74 = true then (some false) else (massiflaw04_CoverLeaves.l0 k x5 x6 x7 0 0 0)
def massiflaw04_CoverLeaves.l0 : Nat → Int → List Int → List (S43) → Int → Int → Int → Option (Bool)
  | 0, _, _, _, _, _, _ => none
  | k + 1, x5, x6, x7, x11, x12, x13 => if x12 < (x7.length : Int) then (massiflaw04_CoverLeaves.j2 k x5 x6 x7 x11 x12 x13 true) else (massiflaw04_CoverLeaves.j2 k x5 x6 x7 x11 x12 x13 (decide (x13 < (x6.length : Int))))
def massiflaw04_CoverLeaves.j2 : Nat → Int → List Int → List (S43) → Int → Int → Int → Bool → Option (Bool)
  | 0, _, _, _, _, _, _, _ => none
  | k + 1, x5, x6, x7, x11, x12, x13, x84 => if x84 = true then (if x13 < (x6.length : Int) then (if 0 ≤ x13 then (massiflaw04_CoverLeaves.j3 k x5 x6 x7 x11 x12 x13 ((rd x6 x13) == x11)) else (none)) else (massiflaw04_CoverLeaves.j3 k x5 x6 x7 x11 x12 x13 false)) else (if x11 = x5 then (if 0 ≤ (wrap64 ((x6.length : Int) / 2)) then (if (wrap64 ((x6.length : Int) / 2)) < (x6.length : Int) then ((cover_Rest.f x5 (([rd x6 (wrap64 ((x6.length : Int) / 2))] : List Int))).bind fun bt264 => ((cover_Range.f 0 (rd x6 (wrap64 ((x6.length : Int) / 2))) x5).bind fun bt268 => ((cover_Range.f (IntKind.u64.wrap ((rd x6 (wrap64 ((x6.length : Int) / 2))) + 1)) x5 x5).bind fun bt272 => ((massiflaw04_num.f bt264.2).bind fun t276 => (if t276 = 0 then ((massiflaw04_num.f bt268.2).bind fun t277 => (if t277 = 0 then ((massiflaw04_num.f bt272.2).bind fun t278 => (if t278 = 0 then (if ([] : List (S43)).length + bt268.1.length < 8796093022208 then ((some (([] : List (S43)) ++ bt268.1 : List (S43))).bind fun y279 => (if y279.length + bt272.1.length < 8796093022208 then ((massiflaw04_same.f k bt264.1 (y279 ++ bt272.1)).bind fun t285 => (some t285)) else (none))) else (none)) else (some false))) else (some false))) else (some false)))))) else (none)) else (none)) else (some false))
def massiflaw04_CoverLeaves.j3 : Nat → Int → List Int → List (S43) → Int → Int → Int → Bool → Option (Bool)
  | 0, _, _, _, _, _, _, _ => none
  | k + 1, x5, x6, x7, x11, x12, x13, x96 => if x96 = true then (massiflaw04_CoverLeaves.l0 k x5 x6 x7 (IntKind.u64.wrap (x11 + 1)) x12 (wrap64 (x13 + 1))) else (if x12 = (x7.length : Int) then (some false) else (if 0 ≤ x12 then (if x12 < (x7.length : Int) then ((massiflaw04_span.f ((rd_T43 x7 x12).f0) ((rd_T43 x7 x12).f1)).bind fun bt239 => (if bt239.2.2 = true then (if bt239.1 = x11 then (massiflaw04_CoverLeaves.j4 k x5 x6 x7 x12 x13 (decide (bt239.2.1 > x5))) else (massiflaw04_CoverLeaves.j4 k x5 x6 x7 x12 x13 true)) else (massiflaw04_CoverLeaves.j4 k x5 x6 x7 x12 x13 true))) else (none)) else (none)))
def massiflaw04_CoverLeaves.j4 : Nat → Int → List Int → List (S43) → Int → Int → Bool → Option (Bool)
  | 0, _, _, _, _, _, _ => none
  | k + 1, x5, x6, x7, x12, x13, x125 => if x125 = true then (some false) else (if 0 ≤ x12 then (if x12 < (x7.length : Int) then ((massiflaw04_span.f (wrap64 (((rd_T43 x7 x12).f0) + 1)) (IntKind.u64.wrap (Int.tdiv ((rd_T43 x7 x12).f1) 2))).bind fun bt244 => (if bt244.2.2 = true then (if bt244.2.1 ≤ x5 then ((massiflaw04_holds.f k x6 bt244.1 bt244.2.1).bind fun t247 => (if t247 = true then ((massiflaw04_span.f ((rd_T43 x7 x12).f0) ((rd_T43 x7 x12).f1)).bind fun bt249 => (massiflaw04_CoverLeaves.l0 k x5 x6 x7 bt249.2.1 (wrap64 (x12 + 1)) x13)) else (some false))) else ((massiflaw04_span.f ((rd_T43 x7 x12).f0) ((rd_T43 x7 x12).f1)).bind fun bt253 => (massiflaw04_CoverLeaves.l0 k x5 x6 x7 bt253.2.1 (wrap64 (x12 + 1)) x13))) else ((massiflaw04_span.f ((rd_T43 x7 x12).f0) ((rd_T43 x7 x12).f1)).bind fun bt257 => (massiflaw04_CoverLeaves.l0 k x5 x6 x7 bt257.2.1 (wrap64 (x12 + 1)) x13)))) else (none)) else (none))
end
def massiflaw04_CoverLeaves.f (k : Nat) (a0 : Int) (l1 : List Int) : Option (Bool) := (massiflaw04_alive.f k).bind fun t214 => (if t214 = true then ((massiflaw04_within.f a0 1099511627775).bind fun t215 => ((some (([IntKind.u64.wrap (Int.tdiv a0 3)] : List Int) : List Int)).bind fun y216 => ((massiflaw04_few.f l1).bind fun t219 => (if y216.length + t219.length < 17592186044416 then ((massiflaw04_rising.f k (IntKind.u64.wrap (t215 + 1)) (y216 ++ t219)).bind fun t225 => ((cover_Rest.f (IntKind.u64.wrap (t215 + 1)) t225).bind fun bt228 => ((cover_Count.f (IntKind.u64.wrap (t215 + 1)) t225).bind fun bt232 => ((massiflaw04_num.f bt228.2).bind fun t234 => (if t234 = 0 then ((massiflaw04_num.f bt232.2).bind fun t235 => (if t235 = 0 then (if bt232.1 = (IntKind.u64.wrap ((bt228.1.length : Int))) then ((num_Ceil.f k (IntKind.u64.wrap (t215 + 1))).bind fun t236 => (massiflaw04_CoverLeaves.j0 k (IntKind.u64.wrap (t215 + 1)) t225 bt228.1 (decide ((bt228.1.length : Int) > (wrap64 ((wrap64 ((t225.length : Int) * t236)) + 40)))))) else (massiflaw04_CoverLeaves.j0 k (IntKind.u64.wrap (t215 + 1)) t225 bt228.1 true)) else (massiflaw04_CoverLeaves.j0 k (IntKind.u64.wrap (t215 + 1)) t225 bt228.1 true))) else (massiflaw04_CoverLeaves.j0 k (IntKind.u64.wrap (t215 + 1)) t225 bt228.1 true)))))) else (none))))) else (some false))
theorem massiflaw04_CoverLeaves.mono_l : ∀ k, (∀ y0 y1 y2 y3, LeO (massiflaw04_CoverLeaves.j0 k y0 y1 y2 y3) (massiflaw04_CoverLeaves.j0 (k + 1) y0 y1 y2 y3)) ∧ (∀ y0 y1 y2 y3 y4 y5, LeO (massiflaw04_CoverLeaves.l0 k y0 y1 y2 y3 y4 y5) (massiflaw04_CoverLeaves.l0 (k + 1) y0 y1 y2 y3 y4 y5)) ∧ (∀ y0 y1 y2 y3 y4 y5 y6, LeO (massiflaw04_CoverLeaves.j2 k y0 y1 y2 y3 y4 y5 y6) (massiflaw04_CoverLeaves.j2 (k + 1) y0 y1 y2 y3 y4 y5 y6)) ∧ (∀ y0 y1 y2 y3 y4 y5 y6, LeO (massiflaw04_CoverLeaves.j3 k y0 y1 y2 y3 y4 y5 y6) (massiflaw04_CoverLeaves.j3 (k + 1) y0 y1 y2 y3 y4 y5 y6)) ∧ (∀ y0 y1 y2 y3 y4 y5, LeO (massiflaw04_CoverLeaves.j4 k y0 y1 y2 y3 y4 y5) (massiflaw04_CoverLeaves.j4 (k + 1) y0 y1 y2 y3 y4 y5))
  | 0 => ⟨fun _ _ _ _ r h => by simp [massiflaw04_CoverLeaves.j0] at h, fun _ _ _ _ _ _ r h => by simp [massiflaw04_CoverLeaves.l0] at h, fun _ _ _ _ _ _ _ r h => by simp [massiflaw04_CoverLeaves.j2] at h, fun _ _ _ _ _ _ _ r h => by simp [massiflaw04_CoverLeaves.j3] at h, fun _ _ _ _ _ _ r h => by simp [massiflaw04_CoverLeaves.j4] at h⟩
  | k + 1 => by
    obtain ⟨ih0, ih1, ih2, ih3, ih4⟩ := massiflaw04_CoverLeaves.mono_l k
    refine ⟨?_, ?_, ?_, ?_, ?_⟩
    · intro y0 y1 y2 y3
      unfold massiflaw04_CoverLeaves.j0
      repeat' first
      | (with_reducible exact ih0 _ _ _ _)
      | (with_reducible exact ih1 _ _ _ _ _ _)
      | (with_reducible exact ih2 _ _ _ _ _ _ _)
      | (with_reducible exact ih3 _ _ _ _ _ _ _)
      | (with_reducible exact ih4 _ _ _ _ _ _)
      | (with_reducible exact massiflaw04_alive.mono _)
      | (with_reducible exact massiflaw04_holds.mono _ _ _ _)
      | (with_reducible exact massiflaw04_rising.mono _ _ _)
      | (with_reducible exact massiflaw04_same.mono _ _ _)
      | (with_reducible exact num_Ceil.mono _ _)
      | (with_reducible exact LeO.refl _)
      | (with_reducible exact LeO.none _)
      | (with_reducible refine LeO.ite ?_ ?_)
      | (with_reducible refine LeO.bind ?_ (fun _ => ?_))
      | exact ih0 _ _ _ _
      | exact ih1 _ _ _ _ _ _
      | exact ih2 _ _ _ _ _ _ _
      | exact ih3 _ _ _ _ _ _ _
      | exact ih4 _ _ _ _ _ _
      | exact massiflaw04_alive.mono _
      | exact massiflaw04_holds.mono _ _ _ _
      | exact massiflaw04_rising.mono _ _ _
      | exact massiflaw04_same.mono _ _ _
      | exact num_Ceil.mono _ _
      | exact LeO.none _
      | refine LeO.ite ?_ ?_
      | refine LeO.bind ?_ (fun _ => ?_)
    · intro y0 y1 y2 y3 y4 y5
      unfold massiflaw04_CoverLeaves.l0
      repeat' first
      | (with_reducible exact ih0 _ _ _ _)
      | (with_reducible exact ih1 _ _ _ _ _ _)
      | (with_reducible exact ih2 _ _ _ _ _ _ _)
      | (with_reducible exact ih3 _ _ _ _ _ _ _)
      | (with_reducible exact ih4 _ _ _ _ _ _)
      | (with_reducible exact massiflaw04_alive.mono _)
      | (with_reducible exact massiflaw04_holds.mono _ _ _ _)
      | (with_reducible exact massiflaw04_rising.mono _ _ _)
      | (with_reducible exact massiflaw04_same.mono _ _ _)
      | (with_reducible exact num_Ceil.mono _ _)
      | (with_reducible exact LeO.refl _)
      | (with_reducible exact LeO.none _)
      | (with_reducible refine LeO.ite ?_ ?_)
      | (with_reducible refine LeO.bind ?_ (fun _ => ?_))
      | exact ih0 _ _ _ _
      | exact ih1 _ _ _ _ _ _
      | exact ih2 _ _ _ _ _ _ _
      | exact ih3 _ _ _ _ _ _ _
      | exact ih4 _ _ _ _ _ _
      | exact massiflaw04_alive.mono _
      | exact massiflaw04_holds.mono _ _ _ _
      | exact massiflaw04_rising.mono _ _ _
      | exact massiflaw04_same.mono _ _ _
      | exact num_Ceil.mono _ _
      | exact LeO.none _
      | refine LeO.ite ?_ ?_
      | refine LeO.bind ?_ (fun _ => ?_)
    · intro y0 y1 y2 y3 y4 y5 y6
      unfold massiflaw04_CoverLeaves.j2
      repeat' first
      | (with_reducible exact ih0 _ _ _ _)
      | (with_reducible exact ih1 _ _ _ _ _ _)
      | (with_reducible exact ih2 _ _ _ _ _ _ _)
      | (with_reducible exact ih3 _ _ _ _ _ _ _)
      | (with_reducible exact ih4 _ _ _ _ _ _)
      | (with_reducible exact massiflaw04_alive.mono _)
      | (with_reducible exact massiflaw04_holds.mono _ _ _ _)
      | (with_reducible exact massiflaw04_rising.mono _ _ _)
      | (with_reducible exact massiflaw04_same.mono _ _ _)
      | (with_reducible exact num_Ceil.mono _ _)
      | (with_reducible exact LeO.refl _)
      | (with_reducible exact LeO.none _)
      | (with_reducible refine LeO.ite ?_ ?_)
      | (with_reducible refine LeO.bind ?_ (fun _ => ?_))
      | exact ih0 _ _ _ _
      | exact ih1 _ _ _ _ _ _
      | exact ih2 _ _ _ _ _ _ _
      | exact ih3 _ _ _ _ _ _ _
      | exact ih4 _ _ _ _ _ _
      | exact massiflaw04_alive.mono _
      | exact massiflaw04_holds.mono _ _ _ _
      | exact massiflaw04_rising.mono _ _ _
      | exact massiflaw04_same.mono _ _ _
      | exact num_Ceil.mono _ _
      | exact LeO.none _
      | refine LeO.ite ?_ ?_
      | refine LeO.bind ?_ (fun _ => ?_)
    · intro y0 y1 y2 y3 y4 y5 y6
      unfold massiflaw04_CoverLeaves.j3
      repeat' first
      | (with_reducible exact ih0 _ _ _ _)
      | (with_reducible exact ih1 _ _ _ _ _ _)
      | (with_reducible exact ih2 _ _ _ _ _ _ _)
      | (with_reducible exact ih3 _ _ _ _ _ _ _)
      | (with_reducible exact ih4 _ _ _ _ _ _)
      | (with_reducible exact massiflaw04_alive.mono _)
      | (with_reducible exact massiflaw04_holds.mono _ _ _ _)
      | (with_reducible exact massiflaw04_rising.mono _ _ _)
      | (with_reducible exact massiflaw04_same.mono _ _ _)
      | (with_reducible exact num_Ceil.mono _ _)
      | (with_reducible exact LeO.refl _)
      | (with_reducible exact LeO.none _)
      | (with_reducible refine LeO.ite ?_ ?_)
      | (with_reducible refine LeO.bind ?_ (fun _ => ?_))
      | exact ih0 _ _ _ _
      | exact ih1 _ _ _ _ _ _
      | exact ih2 _ _ _ _ _ _ _
      | exact ih3 _ _ _ _ _ _ _
      | exact ih4 _ _ _ _ _ _
      | exact massiflaw04_alive.mono _
      | exact massiflaw04_holds.mono _ _ _ _
      | exact massiflaw04_rising.mono _ _ _
      | exact massiflaw04_same.mono _ _ _
      | exact num_Ceil.mono _ _
      | exact LeO.none _
      | refine LeO.ite ?_ ?_
      | refine LeO.bind ?_ (fun _ => ?_)
    · intro y0 y1 y2 y3 y4 y5
      unfold massiflaw04_CoverLeaves.j4
      repeat' first
      | (with_reducible exact ih0 _ _ _ _)
      | (with_reducible exact ih1 _ _ _ _ _ _)
      | (with_reducible exact ih2 _ _ _ _ _ _ _)
      | (with_reducible exact ih3 _ _ _ _ _ _ _)
      | (with_reducible exact ih4 _ _ _ _ _ _)
      | (with_reducible exact massiflaw04_alive.mono _)
      | (with_reducible exact massiflaw04_holds.mono _ _ _ _)
      | (with_reducible exact massiflaw04_rising.mono _ _ _)
      | (with_reducible exact massiflaw04_same.mono _ _ _)
      | (with_reducible exact num_Ceil.mono _ _)
      | (with_reducible exact LeO.refl _)
      | (with_reducible exact LeO.none _)
      | (with_reducible refine LeO.ite ?_ ?_)
      | (with_reducible refine LeO.bind ?_ (fun _ => ?_))
      | exact ih0 _ _ _ _
      | exact ih1 _ _ _ _ _ _
      | exact ih2 _ _ _ _ _ _ _
      | exact ih3 _ _ _ _ _ _ _
      | exact ih4 _ _ _ _ _ _
      | exact massiflaw04_alive.mono _
      | exact massiflaw04_holds.mono _ _ _ _
      | exact massiflaw04_rising.mono _ _ _
      | exact massiflaw04_same.mono _ _ _
      | exact num_Ceil.mono _ _
      | exact LeO.none _
      | refine LeO.ite ?_ ?_
      | refine LeO.bind ?_ (fun _ => ?_)
theorem massiflaw04_CoverLeaves.mono : ∀ a0 a1 k, LeO (massiflaw04_CoverLeaves.f k a0 a1) (massiflaw04_CoverLeaves.f (k + 1) a0 a1) := by
  intro a0 a1 k
  obtain ⟨ih0, ih1, ih2, ih3, ih4⟩ := massiflaw04_CoverLeaves.mono_l k
  unfold massiflaw04_CoverLeaves.f
  repeat' first
      | (with_reducible exact ih0 _ _ _ _)
      | (with_reducible exact ih1 _ _ _ _ _ _)
      | (with_reducible exact ih2 _ _ _ _ _ _ _)
      | (with_reducible exact ih3 _ _ _ _ _ _ _)
      | (with_reducible exact ih4 _ _ _ _ _ _)
      | (with_reducible exact massiflaw04_alive.mono _)
      | (with_reducible exact massiflaw04_holds.mono _ _ _ _)
      | (with_reducible exact massiflaw04_rising.mono _ _ _)
      | (with_reducible exact massiflaw04_same.mono _ _ _)
      | (with_reducible exact num_Ceil.mono _ _)
      | (with_reducible exact LeO.refl _)
      | (with_reducible exact LeO.none _)
      | (with_reducible refine LeO.ite ?_ ?_)
      | (with_reducible refine LeO.bind ?_ (fun _ => ?_))
      | exact ih0 _ _ _ _
      | exact ih1 _ _ _ _ _ _
      | exact ih2 _ _ _ _ _ _ _
      | exact ih3 _ _ _ _ _ _ _
      | exact ih4 _ _ _ _ _ _
      | exact massiflaw04_alive.mono _
      | exact massiflaw04_holds.mono _ _ _ _
      | exact massiflaw04_rising.mono _ _ _
      | exact massiflaw04_same.mono _ _ _
      | exact num_Ceil.mono _ _
      | exact LeO.none _
      | refine LeO.ite ?_ ?_
      | refine LeO.bind ?_ (fun _ => ?_)
def massiflaw04_CoverLeaves.T20 : Bool × List (List Nat × List Nat) := (true, [([], []), ([], []), ([0, 1], [0, 1]), ([2], [2]), ([3], [3]), ([4], [4]), ([], []), ([], []), ([6, 7], [6, 7]), ([8], [8]), ([9], [9]), ([10], [10]), ([5, 11], [5, 11]), ([12], [12]), ([13], [13]), ([14], [14]), ([14], [14]), ([14], [14]), ([15, 13, 0, 1, 2, 3, 4, 5, 6, 7, 8, 9, 10, 11, 12, 13, 14, 15], [15]), ([16, 18, 0, 1, 2, 3, 4, 5, 6, 7, 8, 9, 10, 11, 12, 13, 14, 15, 16, 18], [16]), ([17, 19, 0, 1, 2, 3, 4, 5, 6, 7, 8, 9, 10, 11, 12, 13, 14, 15, 16, 17, 18, 19], [17])])
def massiflaw04_CoverLeaves.B20 : List Nat := [0, 0, 3, 7, 15, 31, 0, 0, 192, 448, 960, 1984, 4095, 8191, 16383, 32767, 32767, 32767, 65535, 393215, 1048575]
theorem massiflaw04_CoverLeaves.tab20 : rtab .any (opsOf Try.f6 20) = massiflaw04_CoverLeaves.T20 := by kernel_rfl
theorem massiflaw04_CoverLeaves.bits20 : waitsOk massiflaw04_CoverLeaves.T20.2 massiflaw04_CoverLeaves.B20 = true := by kernel_rfl
set_option maxHeartbeats 8000000 in
set_option maxRecDepth 100000 in
theorem massiflaw04_CoverLeaves.calls (k : Nat) (a0 : Int) (A1 : Option Addr) (c1 : Nat) (l1 : List Int) (r : Bool) (w : World) (hr1 : Kd.C (Kd.int .u64) w A1 l1.length l1) (hc1 : l1.length ≤ c1) (h : massiflaw04_CoverLeaves.f k a0 l1 = some r) :
    Calls Try.prog 6 #[.int .u64 a0, .slice A1 l1.length c1] w fun e w' => e = .returned (.bool r) ∧ Below w.heap.size w w' := by
  have hu43 := Try.underlying43
  have HR1 := Aside0.mk hr1
  have HC1 := Aside0.mk hc1
  clear hr1 hc1
  have HB := Aside0.mk (Below.refl w.heap.size w)
  have H : ((massiflaw04_alive.f k).bind fun t214 => (if t214 = true then ((massiflaw04_within.f a0 1099511627775).bind fun t215 => ((some (([IntKind.u64.wrap (Int.tdiv a0 3)] : List Int) : List Int)).bind fun y216 => ((massiflaw04_few.f l1).bind fun t219 => (if y216.length + t219.length < 17592186044416 then ((massiflaw04_rising.f k (IntKind.u64.wrap (t215 + 1)) (y216 ++ t219)).bind fun t225 => ((cover_Rest.f (IntKind.u64.wrap (t215 + 1)) t225).bind fun bt228 => ((cover_Count.f (IntKind.u64.wrap (t215 + 1)) t225).bind fun bt232 => ((massiflaw04_num.f bt228.2).bind fun t234 => (if t234 = 0 then ((massiflaw04_num.f bt232.2).bind fun t235 => (if t235 = 0 then (if bt232.1 = (IntKind.u64.wrap ((bt228.1.length : Int))) then ((num_Ceil.f k (IntKind.u64.wrap (t215 + 1))).bind fun t236 => (massiflaw04_CoverLeaves.j0 k (IntKind.u64.wrap (t215 + 1)) t225 bt228.1 (decide ((bt228.1.length : Int) > (wrap64 ((wrap64 ((t225.length : Int) * t236)) + 40)))))) else (massiflaw04_CoverLeaves.j0 k (IntKind.u64.wrap (t215 + 1)) t225 bt228.1 true)) else (massiflaw04_CoverLeaves.j0 k (IntKind.u64.wrap (t215 + 1)) t225 bt228.1 true))) else (massiflaw04_CoverLeaves.j0 k (IntKind.u64.wrap (t215 + 1)) t225 bt228.1 true)))))) else (none))))) else (some false))) = some r := h
  clear h
  replace H := Option.bind_eq_some_iff.mp H
  obtain ⟨t214, A30, H⟩ := H
  replace H : (if t214 = true then ((massiflaw04_within.f a0 1099511627775).bind fun t215 => ((some (([IntKind.u64.wrap (Int.tdiv a0 3)] : List Int) : List Int)).bind fun y216 => ((massiflaw04_few.f l1).bind fun t219 => (if y216.length + t219.length < 17592186044416 then ((massiflaw04_rising.f k (IntKind.u64.wrap (t215 + 1)) (y216 ++ t219)).bind fun t225 => ((cover_Rest.f (IntKind.u64.wrap (t215 + 1)) t225).bind fun bt228 => ((cover_Count.f (IntKind.u64.wrap (t215 + 1)) t225).bind fun bt232 => ((massiflaw04_num.f bt228.2).bind fun t234 => (if t234 = 0 then ((massiflaw04_num.f bt232.2).bind fun t235 => (if t235 = 0 then (if bt232.1 = (IntKind.u64.wrap ((bt228.1.length : Int))) then ((num_Ceil.f k (IntKind.u64.wrap (t215 + 1))).bind fun t236 => (massiflaw04_CoverLeaves.j0 k (IntKind.u64.wrap (t215 + 1)) t225 bt228.1 (decide ((bt228.1.length : Int) > (wrap64 ((wrap64 ((t225.length : Int) * t236)) + 40)))))) else (massiflaw04_CoverLeaves.j0 k (IntKind.u64.wrap (t215 + 1)) t225 bt228.1 true)) else (massiflaw04_CoverLeaves.j0 k (IntKind.u64.wrap (t215 + 1)) t225 bt228.1 true))) else (massiflaw04_CoverLeaves.j0 k (IntKind.u64.wrap (t215 + 1)) t225 bt228.1 true)))))) else (none))))) else (some false)) = some r := H
  have A3 := Aside0.mk A30
  clear A30
  by_cases c4 : t214 = true
  · subst c4
    have H1 : ((massiflaw04_within.f a0 1099511627775).bind fun t215 => ((some (([IntKind.u64.wrap (Int.tdiv a0 3)] : List Int) : List Int)).bind fun y216 => ((massiflaw04_few.f l1).bind fun t219 => (if y216.length + t219.length < 17592186044416 then ((massiflaw04_rising.f k (IntKind.u64.wrap (t215 + 1)) (y216 ++ t219)).bind fun t225 => ((cover_Rest.f (IntKind.u64.wrap (t215 + 1)) t225).bind fun bt228 => ((cover_Count.f (IntKind.u64.wrap (t215 + 1)) t225).bind fun bt232 => ((massiflaw04_num.f bt228.2).bind fun t234 => (if t234 = 0 then ((massiflaw04_num.f bt232.2).bind fun t235 => (if t235 = 0 then (if bt232.1 = (IntKind.u64.wrap ((bt228.1.length : Int))) then ((num_Ceil.f k (IntKind.u64.wrap (t215 + 1))).bind fun t236 => (massiflaw04_CoverLeaves.j0 k (IntKind.u64.wrap (t215 + 1)) t225 bt228.1 (decide ((bt228.1.length : Int) > (wrap64 ((wrap64 ((t225.length : Int) * t236)) + 40)))))) else (massiflaw04_CoverLeaves.j0 k (IntKind.u64.wrap (t215 + 1)) t225 bt228.1 true)) else (massiflaw04_CoverLeaves.j0 k (IntKind.u64.wrap (t215 + 1)) t225 bt228.1 true))) else (massiflaw04_CoverLeaves.j0 k (IntKind.u64.wrap (t215 + 1)) t225 bt228.1 true)))))) else (none))))) = some r := by rw [if_pos rfl] at H; exact H
    clear H
    have H := H1
    clear H1
    replace H := Option.bind_eq_some_iff.mp H
    obtain ⟨t215, A50, H⟩ := H
    replace H : ((some (([IntKind.u64.wrap (Int.tdiv a0 3)] : List Int) : List Int)).bind fun y216 => ((massiflaw04_few.f l1).bind fun t219 => (if y216.length + t219.length < 17592186044416 then ((massiflaw04_rising.f k (IntKind.u64.wrap (t215 + 1)) (y216 ++ t219)).bind fun t225 => ((cover_Rest.f (IntKind.u64.wrap (t215 + 1)) t225).bind fun bt228 => ((cover_Count.f (IntKind.u64.wrap (t215 + 1)) t225).bind fun bt232 => ((massiflaw04_num.f bt228.2).bind fun t234 => (if t234 = 0 then ((massiflaw04_num.f bt232.2).bind fun t235 => (if t235 = 0 then (if bt232.1 = (IntKind.u64.wrap ((bt228.1.length : Int))) then ((num_Ceil.f k (IntKind.u64.wrap (t215 + 1))).bind fun t236 => (massiflaw04_CoverLeaves.j0 k (IntKind.u64.wrap (t215 + 1)) t225 bt228.1 (decide ((bt228.1.length : Int) > (wrap64 ((wrap64 ((t225.length : Int) * t236)) + 40)))))) else (massiflaw04_CoverLeaves.j0 k (IntKind.u64.wrap (t215 + 1)) t225 bt228.1 true)) else (massiflaw04_CoverLeaves.j0 k (IntKind.u64.wrap (t215 + 1)) t225 bt228.1 true))) else (massiflaw04_CoverLeaves.j0 k (IntKind.u64.wrap (t215 + 1)) t225 bt228.1 true)))))) else (none)))) = some r := H
    have A5 := Aside0.mk A50
    clear A50
    obtain ⟨y216, hy216⟩ : ∃ y_ : List Int, y_ = (([IntKind.u64.wrap (Int.tdiv a0 3)] : List Int)) := ⟨_, rfl⟩
    replace H : ((massiflaw04_few.f l1).bind fun t219 => (if y216.length + t219.length < 17592186044416 then ((massiflaw04_rising.f k (IntKind.u64.wrap (t215 + 1)) (y216 ++ t219)).bind fun t225 => ((cover_Rest.f (IntKind.u64.wrap (t215 + 1)) t225).bind fun bt228 => ((cover_Count.f (IntKind.u64.wrap (t215 + 1)) t225).bind fun bt232 => ((massiflaw04_num.f bt228.2).bind fun t234 => (if t234 = 0 then ((massiflaw04_num.f bt232.2).bind fun t235 => (if t235 = 0 then (if bt232.1 = (IntKind.u64.wrap ((bt228.1.length : Int))) then ((num_Ceil.f k (IntKind.u64.wrap (t215 + 1))).bind fun t236 => (massiflaw04_CoverLeaves.j0 k (IntKind.u64.wrap (t215 + 1)) t225 bt228.1 (decide ((bt228.1.length : Int) > (wrap64 ((wrap64 ((t225.length : Int) * t236)) + 40)))))) else (massiflaw04_CoverLeaves.j0 k (IntKind.u64.wrap (t215 + 1)) t225 bt228.1 true)) else (massiflaw04_CoverLeaves.j0 k (IntKind.u64.wrap (t215 + 1)) t225 bt228.1 true))) else (massiflaw04_CoverLeaves.j0 k (IntKind.u64.wrap (t215 + 1)) t225 bt228.1 true)))))) else (none))) = some r := by first | (rw [hy216]; with_reducible exact H) | (have H2_ := (Option.bind_some _ _).symm.trans H; rw [hy216]; with_reducible exact H2_) | (have H2_ := (Option.bind_some _ _).symm.trans H; with_reducible exact H2_) | with_reducible exact H | (rw [hy216]; exact H) | exact H
    have Ny216 := Aside0.mk hy216
    clear hy216
    replace H := Option.bind_eq_some_iff.mp H
    obtain ⟨t219, A60, H⟩ := H
    replace H : (if y216.length + t219.length < 17592186044416 then ((massiflaw04_rising.f k (IntKind.u64.wrap (t215 + 1)) (y216 ++ t219)).bind fun t225 => ((cover_Rest.f (IntKind.u64.wrap (t215 + 1)) t225).bind fun bt228 => ((cover_Count.f (IntKind.u64.wrap (t215 + 1)) t225).bind fun bt232 => ((massiflaw04_num.f bt228.2).bind fun t234 => (if t234 = 0 then ((massiflaw04_num.f bt232.2).bind fun t235 => (if t235 = 0 then (if bt232.1 = (IntKind.u64.wrap ((bt228.1.length : Int))) then ((num_Ceil.f k (IntKind.u64.wrap (t215 + 1))).bind fun t236 => (massiflaw04_CoverLeaves.j0 k (IntKind.u64.wrap (t215 + 1)) t225 bt228.1 (decide ((bt228.1.length : Int) > (wrap64 ((wrap64 ((t225.length : Int) * t236)) + 40)))))) else (massiflaw04_CoverLeaves.j0 k (IntKind.u64.wrap (t215 + 1)) t225 bt228.1 true)) else (massiflaw04_CoverLeaves.j0 k (IntKind.u64.wrap (t215 + 1)) t225 bt228.1 true))) else (massiflaw04_CoverLeaves.j0 k (IntKind.u64.wrap (t215 + 1)) t225 bt228.1 true)))))) else (none)) = some r := H
    have A6 := Aside0.mk A60
    clear A60
    by_cases c7 : y216.length + t219.length < 17592186044416
    · rw [if_pos c7] at H
      have LMc7 := Aside0.mk c7
      clear c7
      obtain ⟨y222, hy222⟩ : ∃ y_ : List Int, y_ = (y216 ++ t219) := ⟨_, rfl⟩
      replace H : ((massiflaw04_rising.f k (IntKind.u64.wrap (t215 + 1)) y222).bind fun t225 => ((cover_Rest.f (IntKind.u64.wrap (t215 + 1)) t225).bind fun bt228 => ((cover_Count.f (IntKind.u64.wrap (t215 + 1)) t225).bind fun bt232 => ((massiflaw04_num.f bt228.2).bind fun t234 => (if t234 = 0 then ((massiflaw04_num.f bt232.2).bind fun t235 => (if t235 = 0 then (if bt232.1 = (IntKind.u64.wrap ((bt228.1.length : Int))) then ((num_Ceil.f k (IntKind.u64.wrap (t215 + 1))).bind fun t236 => (massiflaw04_CoverLeaves.j0 k (IntKind.u64.wrap (t215 + 1)) t225 bt228.1 (decide ((bt228.1.length : Int) > (wrap64 ((wrap64 ((t225.length : Int) * t236)) + 40)))))) else (massiflaw04_CoverLeaves.j0 k (IntKind.u64.wrap (t215 + 1)) t225 bt228.1 true)) else (massiflaw04_CoverLeaves.j0 k (IntKind.u64.wrap (t215 + 1)) t225 bt228.1 true))) else (massiflaw04_CoverLeaves.j0 k (IntKind.u64.wrap (t215 + 1)) t225 bt228.1 true)))))) = some r := by first | (rw [hy222]; with_reducible exact H) | (have H2_ := (Option.bind_some _ _).symm.trans H; rw [hy222]; with_reducible exact H2_) | (have H2_ := (Option.bind_some _ _).symm.trans H; with_reducible exact H2_) | with_reducible exact H | (rw [hy222]; exact H) | exact H
      have Ny222 := Aside0.mk hy222
      clear hy222
      replace H := Option.bind_eq_some_iff.mp H
      obtain ⟨t225, A80, H⟩ := H
      replace H : ((cover_Rest.f (IntKind.u64.wrap (t215 + 1)) t225).bind fun bt228 => ((cover_Count.f (IntKind.u64.wrap (t215 + 1)) t225).bind fun bt232 => ((massiflaw04_num.f bt228.2).bind fun t234 => (if t234 = 0 then ((massiflaw04_num.f bt232.2).bind fun t235 => (if t235 = 0 then (if bt232.1 = (IntKind.u64.wrap ((bt228.1.length : Int))) then ((num_Ceil.f k (IntKind.u64.wrap (t215 + 1))).bind fun t236 => (massiflaw04_CoverLeaves.j0 k (IntKind.u64.wrap (t215 + 1)) t225 bt228.1 (decide ((bt228.1.length : Int) > (wrap64 ((wrap64 ((t225.length : Int) * t236)) + 40)))))) else (massiflaw04_CoverLeaves.j0 k (IntKind.u64.wrap (t215 + 1)) t225 bt228.1 true)) else (massiflaw04_CoverLeaves.j0 k (IntKind.u64.wrap (t215 + 1)) t225 bt228.1 true))) else (massiflaw04_CoverLeaves.j0 k (IntKind.u64.wrap (t215 + 1)) t225 bt228.1 true))))) = some r := H
      have A8 := Aside0.mk A80
      clear A80
      replace H := Option.bind_eq_some_iff.mp H
      obtain ⟨⟨t228, t229⟩, A90, H⟩ := H
      replace H : ((cover_Count.f (IntKind.u64.wrap (t215 + 1)) t225).bind fun bt232 => ((massiflaw04_num.f t229).bind fun t234 => (if t234 = 0 then ((massiflaw04_num.f bt232.2).bind fun t235 => (if t235 = 0 then (if bt232.1 = (IntKind.u64.wrap ((t228.length : Int))) then ((num_Ceil.f k (IntKind.u64.wrap (t215 + 1))).bind fun t236 => (massiflaw04_CoverLeaves.j0 k (IntKind.u64.wrap (t215 + 1)) t225 t228 (decide ((t228.length : Int) > (wrap64 ((wrap64 ((t225.length : Int) * t236)) + 40)))))) else (massiflaw04_CoverLeaves.j0 k (IntKind.u64.wrap (t215 + 1)) t225 t228 true)) else (massiflaw04_CoverLeaves.j0 k (IntKind.u64.wrap (t215 + 1)) t225 t228 true))) else (massiflaw04_CoverLeaves.j0 k (IntKind.u64.wrap (t215 + 1)) t225 t228 true)))) = some r := H
      have A9 := Aside0.mk A90
      clear A90
      replace H := Option.bind_eq_some_iff.mp H
      obtain ⟨⟨t232, t233⟩, A100, H⟩ := H
      replace H : ((massiflaw04_num.f t229).bind fun t234 => (if t234 = 0 then ((massiflaw04_num.f t233).bind fun t235 => (if t235 = 0 then (if t232 = (IntKind.u64.wrap ((t228.length : Int))) then ((num_Ceil.f k (IntKind.u64.wrap (t215 + 1))).bind fun t236 => (massiflaw04_CoverLeaves.j0 k (IntKind.u64.wrap (t215 + 1)) t225 t228 (decide ((t228.length : Int) > (wrap64 ((wrap64 ((t225.length : Int) * t236)) + 40)))))) else (massiflaw04_CoverLeaves.j0 k (IntKind.u64.wrap (t215 + 1)) t225 t228 true)) else (massiflaw04_CoverLeaves.j0 k (IntKind.u64.wrap (t215 + 1)) t225 t228 true))) else (massiflaw04_CoverLeaves.j0 k (IntKind.u64.wrap (t215 + 1)) t225 t228 true))) = some r := H
      have A10 := Aside0.mk A100
      clear A100
      have HC11 := Aside0.mk H
      clear H
      go_enter Try.func6, Try.ntmps6
      go_upto_region 7 with (first | ((with_reducible refine gate_callee (f := 14) rfl ?_); refine goesL_ (some 24) rfl rfl Try.func14 (by kernel_rfl) rfl #[] rfl (by (try simp only [List.map_toArray, List.map_cons, List.map_nil]); first | done | rfl | (simp only [List.length_drop, List.length_take]; rfl)) ?_; (with_reducible refine (massiflaw04_alive.calls k  true _ A3.out).mono ?_); rintro e w12 ⟨rfl, hb⟩; refine ⟨_, rfl, ?_⟩; have n0_ := Aside0.mk (below_step (by repeat (first | (with_reducible first | exact HB.out | apply below_alloc | apply pw_below_drewN | apply below_drew1) | exact HB.out)) hb); clear HB; have HB := n0_; clear n0_; (try clear hb); (try clear hb2); (try clear hk); (try clear hi)) | ((with_reducible refine gate_callee (f := 27) rfl ?_); refine goesL_ (some 27) rfl rfl Try.func27 (by kernel_rfl) rfl #[.int .u64 a0, .int .u64 1099511627775] rfl (by (try simp only [List.map_toArray, List.map_cons, List.map_nil]); first | done | rfl | (simp only [List.length_drop, List.length_take]; rfl)) ?_; (with_reducible refine (massiflaw04_within.calls a0 1099511627775 t215 _ A5.out).mono ?_); rintro e w' ⟨rfl, ⟨nd, rfl⟩⟩; refine ⟨_, rfl, ?_⟩) | ((with_reducible refine gate_dst (N := 32) rfl ?_); (try (refine gate_guard (by rfl) ?_; dsimp only)); refine Kd.R_lit (Kd.int .u64) _ 22 ?hg (N := 32) ?hd (xs := ([IntKind.u64.wrap (Int.tdiv a0 3)] : List Int)) (inner := [.int .u64 (IntKind.u64.wrap (Int.tdiv a0 3))]) (ok := fun _ => True) (okp := fun _ => True) ?hr ?hp (fun _ hk => hk) trivial (Below.refl _ _) (Nat.le_refl _) (by simp) ?_; (case hd => rfl); (case hg => rfl); (case hr => first | (go_simp; done) | (go_simp; rfl)); (case hp => exact (Reps.one (show Kd.M (Kd.int .u64) _ _ _ (IntKind.u64.wrap (Int.tdiv a0 3)) [.int .u64 (IntKind.u64.wrap (Int.tdiv a0 3))] from rfl) (Reps.none _ _))); intro v217 w13 ho14 hb hg_ hnew_; clear hg_ hnew_; (first | rw [← Ny216.out] at ho14 | (simp only [Int.reduceToNat] at ho14; rw [← Ny216.out] at ho14)); have n0_ := Aside0.mk (Kd.R_lower ho14 (below_size (by repeat (first | (with_reducible first | exact HB.out | apply below_alloc | apply pw_below_drewN | apply below_drew1) | exact HB.out)))); have n1_ := Aside0.mk (below_step (by repeat (first | (with_reducible first | exact HB.out | apply below_alloc | apply pw_below_drewN | apply below_drew1) | exact HB.out)) hb); clear HB; have HO218 := n0_; have HB := n1_; clear n0_ n1_; clear hb ho14) | ((with_reducible refine gate_callee (f := 21) rfl ?_); refine goesL_ (some 34) rfl rfl Try.func21 (by kernel_rfl) rfl #[.slice A1 l1.length c1] rfl (by (try simp only [List.map_toArray, List.map_cons, List.map_nil]); first | done | rfl | (simp only [List.length_drop, List.length_take]; rfl)) ?_; (with_reducible refine (massiflaw04_few.calls (fun k_ => k_ < w.heap.size) _ _ l1 t219 _ ?side1 A6.out).mono ?_); (case side1 => exact Kd.V_mk HC1.out (Kd.F_below (Kd.C_F (Kd.heap_int .u64) HR1.out) (by repeat (first | (with_reducible first | exact HB.out | apply below_alloc | apply pw_below_drewN | apply below_drew1) | exact HB.out)))); rintro e w15 ⟨v220, rfl, ho0, hb⟩; refine ⟨_, rfl, ?_⟩; have n0_ := Aside0.mk (Kd.R_below (by (with_reducible repeat (first | apply Kd.R_alloc | apply Kd.R_drewN | apply Kd.R_drew)); exact HO218.out) hb); have n1_ := Aside0.mk (Kd.V_lower (Kd.V_mono (ok' := fun k_ => some k_ ≠ (v217 : Value).ownBlock) ho0 (fun k_ hk_ => Or.elim hk_ (fun hs_ => fun e_ => Nat.not_le.2 hs_ (Kd.R_base HO218.out k_ e_.symm)) (fun hn_ => (Kd.fresh' (Kd.R_lt (by (with_reducible repeat (first | apply Kd.R_alloc | apply Kd.R_drewN | apply Kd.R_drew)); exact HO218.out)) k_ hn_)))) (below_size (by repeat (first | (with_reducible first | exact HB.out | apply below_alloc | apply pw_below_drewN | apply below_drew1) | exact HB.out)))); have n2_ := Aside0.mk (below_step (by repeat (first | (with_reducible first | exact HB.out | apply below_alloc | apply pw_below_drewN | apply below_drew1) | exact HB.out)) hb); clear HO218; clear HB; have HO218 := n0_; have HO221 := n1_; have HB := n2_; clear n0_ n1_ n2_; (try clear hb); (try clear hb2); (try clear hk); (try clear hi); (try clear ho0); obtain ⟨Ao17, co17, eo17⟩ := Kd.V_slice HO221.out; subst eo17) | ((with_reducible refine gate_builtin (b := .append) (xs := #[.tmp 32, .tmp 34]) rfl ?_); (try (refine gate_guard (by rfl) ?_; dsimp only)); at_builtin; refine Kd.R_append_rows (Kd.int .u64) (w0 := w) w.heap.size rfl (.tmp 32) (.tmp 34) 32 22 (.int .u64 0) 8 rfl Try.underlying32 info22 rfl (by decide) (by omega) v217 y216 t219 _ _ _ (fun _ => True) (fun _ => False) rfl rfl ?aO ?aR (fun _ _ h => h) (fun _ h => h.elim) ?aF ?aB ?aS ?aL ?_; (case aR => repeat (first | exact (Kd.V_reads' HO221.out).2.2 | (with_reducible refine Kd.C_alloc ?_ _) | (with_reducible refine Kd.C_drewN ?_ _) | (with_reducible refine Kd.C_drew ?_))); (case aB => exact (by repeat (first | (with_reducible first | exact HB.out | apply below_alloc | apply pw_below_drewN | apply below_drew1) | exact HB.out))); (case aF => exact (fun _ _ => trivial)); (case aO => exact (by (with_reducible repeat (first | apply Kd.R_alloc | apply Kd.R_drewN | apply Kd.R_drew)); exact HO218.out)); (case aS => exact (below_size (by repeat (first | (with_reducible first | exact HB.out | apply below_alloc | apply pw_below_drewN | apply below_drew1) | exact HB.out)))); (case aL => have := LMc7.out; omega); intro v223 w16 ho hb hg hat; rw [← Ny222.out] at ho; have n0_ := Aside0.mk (Kd.V_afterv (ok := (fun _ => True)) (by (with_reducible repeat (first | apply Kd.V_alloc | apply Kd.V_drewN | apply Kd.V_drew)); exact Kd.V_mono HO221.out (fun _ hk => ⟨trivial, hk⟩)) hg hat); have n1_ := Aside0.mk (hb); have n2_ := Aside0.mk (ho); clear HO221; clear HB; clear HO218; have HO221 := n0_; have HB := n1_; have HO224 := n2_; clear n0_ n1_ n2_; clear ho hb hg hat; obtain ⟨Ao18, co18, eo18⟩ := Kd.R_slice HO224.out; subst eo18) | ((with_reducible refine gate_callee (f := 28) rfl ?_); refine goesL_ (some 36) rfl rfl Try.func28 (by kernel_rfl) rfl #[.int .u64 (IntKind.u64.wrap (t215 + 1)), .slice Ao18 y222.length co18] rfl (by (try simp only [List.map_toArray, List.map_cons, List.map_nil]); first | done | rfl | (simp only [List.length_drop, List.length_take]; rfl)) ?_; (with_reducible refine (massiflaw04_rising.calls k (IntKind.u64.wrap (t215 + 1)) _ _ y222 t225 _ ?side1 ?side2 A8.out).mono ?_); (case side1 => repeat (first | exact (Kd.R_reads' HO224.out).2.2 | (with_reducible refine Kd.C_alloc ?_ _) | (with_reducible refine Kd.C_drewN ?_ _) | (with_reducible refine Kd.C_drew ?_))); (case side2 => exact (Kd.R_reads' HO224.out).2.1); rintro e w19 ⟨v226, rfl, ho0, hb⟩; refine ⟨_, rfl, ?_⟩; have n0_ := Aside0.mk (Kd.V_elder' (by (with_reducible repeat (first | apply Kd.V_alloc | apply Kd.V_drewN | apply Kd.V_drew)); exact HO221.out) (Kd.R_base ho0) hb); have n1_ := Aside0.mk (Kd.R_elder' (by (with_reducible repeat (first | apply Kd.R_alloc | apply Kd.R_drewN | apply Kd.R_drew)); exact HO224.out) (Kd.R_base ho0) hb); have n2_ := Aside0.mk (Kd.R_lower (Kd.R_new' ho0 (Kd.R_lt (by (with_reducible repeat (first | apply Kd.R_alloc | apply Kd.R_drewN | apply Kd.R_drew)); exact HO224.out))) (below_size (by repeat (first | (with_reducible first | exact HB.out | apply below_alloc | apply pw_below_drewN | apply below_drew1) | exact HB.out)))); have n3_ := Aside0.mk (below_step (by repeat (first | (with_reducible first | exact HB.out | apply below_alloc | apply pw_below_drewN | apply below_drew1) | exact HB.out)) hb); clear HO221; clear HO224; clear HB; have HO221 := n0_; have HO224 := n1_; have HO227 := n2_; have HB := n3_; clear n0_ n1_ n2_ n3_; (try clear hb); (try clear hb2); (try clear hk); (try clear hi); (try clear ho0); obtain ⟨Ao20, co20, eo20⟩ := Kd.R_slice HO227.out; subst eo20) | ((with_reducible refine gate_callee (f := 23) rfl ?_); refine goesL_ (some 40) rfl rfl Try.func23 (by kernel_rfl) rfl #[.int .u64 (IntKind.u64.wrap (t215 + 1)), .slice Ao20 t225.length co20] rfl (by (try simp only [List.map_toArray, List.map_cons, List.map_nil]); first | done | rfl | (simp only [List.length_drop, List.length_take]; rfl)) ?_; (with_reducible refine (cover_Rest.calls (IntKind.u64.wrap (t215 + 1)) _ _ t225 t228 t229 _ ?side1 ?side2 A9.out).mono ?_); (case side1 => repeat (first | exact (Kd.R_reads' HO227.out).2.2 | (with_reducible refine Kd.C_alloc ?_ _) | (with_reducible refine Kd.C_drewN ?_ _) | (with_reducible refine Kd.C_drew ?_))); (case side2 => exact (Kd.R_reads' HO227.out).2.1); rintro e w21 ⟨v230, rfl, ho0, hb⟩; refine ⟨_, rfl, ?_⟩; have n0_ := Aside0.mk (Kd.V_elder' (by (with_reducible repeat (first | apply Kd.V_alloc | apply Kd.V_drewN | apply Kd.V_drew)); exact HO221.out) (Kd.R_base ho0) hb); have n1_ := Aside0.mk (Kd.R_below (by (with_reducible repeat (first | apply Kd.R_alloc | apply Kd.R_drewN | apply Kd.R_drew)); exact HO224.out) hb); have n2_ := Aside0.mk (Kd.R_below (by (with_reducible repeat (first | apply Kd.R_alloc | apply Kd.R_drewN | apply Kd.R_drew)); exact HO227.out) hb); have n3_ := Aside0.mk (Kd.R_lower ho0 (below_size (by repeat (first | (with_reducible first | exact HB.out | apply below_alloc | apply pw_below_drewN | apply below_drew1) | exact HB.out)))); have n4_ := Aside0.mk (below_step (by repeat (first | (with_reducible first | exact HB.out | apply below_alloc | apply pw_below_drewN | apply below_drew1) | exact HB.out)) hb); clear HO221; clear HO224; clear HO227; clear HB; have HO221 := n0_; have HO224 := n1_; have HO227 := n2_; have HO231 := n3_; have HB := n4_; clear n0_ n1_ n2_ n3_ n4_; (try clear hb); (try clear hb2); (try clear hk); (try clear hi); (try clear ho0)) | ((with_reducible refine gate_callee (f := 24) rfl ?_); refine goesL_ (some 46) rfl rfl Try.func24 (by kernel_rfl) rfl #[.int .u64 (IntKind.u64.wrap (t215 + 1)), .slice Ao20 t225.length co20] rfl (by (try simp only [List.map_toArray, List.map_cons, List.map_nil]); first | done | rfl | (simp only [List.length_drop, List.length_take]; rfl)) ?_; (with_reducible refine (cover_Count.calls (IntKind.u64.wrap (t215 + 1)) _ _ t225 t232 t233 _ ?side1 ?side2 A10.out).mono ?_); (case side1 => repeat (first | exact (Kd.R_reads' HO227.out).2.2 | (with_reducible refine Kd.C_alloc ?_ _) | (with_reducible refine Kd.C_drewN ?_ _) | (with_reducible refine Kd.C_drew ?_))); (case side2 => exact (Kd.R_reads' HO227.out).2.1); rintro e w22 ⟨rfl, hb⟩; refine ⟨_, rfl, ?_⟩; have n0_ := Aside0.mk (Kd.V_below (by (with_reducible repeat (first | apply Kd.V_alloc | apply Kd.V_drewN | apply Kd.V_drew)); exact HO221.out) hb); have n1_ := Aside0.mk (Kd.R_below (by (with_reducible repeat (first | apply Kd.R_alloc | apply Kd.R_drewN | apply Kd.R_drew)); exact HO224.out) hb); have n2_ := Aside0.mk (Kd.R_below (by (with_reducible repeat (first | apply Kd.R_alloc | apply Kd.R_drewN | apply Kd.R_drew)); exact HO227.out) hb); have n3_ := Aside0.mk (Kd.R_below (by (with_reducible repeat (first | apply Kd.R_alloc | apply Kd.R_drewN | apply Kd.R_drew)); exact HO231.out) hb); have n4_ := Aside0.mk (below_step (by repeat (first | (with_reducible first | exact HB.out | apply below_alloc | apply pw_below_drewN | apply below_drew1) | exact HB.out)) hb); clear HO221; clear HO224; clear HO227; clear HO231; clear HB; have HO221 := n0_; have HO224 := n1_; have HO227 := n2_; have HO231 := n3_; have HB := n4_; clear n0_ n1_ n2_ n3_ n4_; (try clear hb); (try clear hb2); (try clear hk); (try clear hi)))
      (try simp only [Act.put, List.setIfInBounds_toArray, List.set_cons_zero, List.set_cons_succ])
      go_cut [74] (fun v74 wc => ∃ (kq : Nat) (x74_10 : Bool), v74 = .bool x74_10 ∧ Aside0 (massiflaw04_CoverLeaves.j0 kq (IntKind.u64.wrap (t215 + 1)) t225 t228 x74_10 = some r) ∧ Aside0 (kq ≤ k) ∧ Aside0 (Kd.R (Kd.int .u64) 22 wc w.heap.size (fun _ => True) (.slice Ao20 t225.length co20) t225) ∧ Aside0 (Kd.R k43 43 wc w.heap.size (fun _ => True) v230 t228) ∧ Aside0 (Below w.heap.size w wc))
      case first =>
        have H := HC11.out
        clear HC11
        replace H := Option.bind_eq_some_iff.mp H
        obtain ⟨t234, A230, H⟩ := H
        replace H : (if t234 = 0 then ((massiflaw04_num.f t233).bind fun t235 => (if t235 = 0 then (if t232 = (IntKind.u64.wrap ((t228.length : Int))) then ((num_Ceil.f k (IntKind.u64.wrap (t215 + 1))).bind fun t236 => (massiflaw04_CoverLeaves.j0 k (IntKind.u64.wrap (t215 + 1)) t225 t228 (decide ((t228.length : Int) > (wrap64 ((wrap64 ((t225.length : Int) * t236)) + 40)))))) else (massiflaw04_CoverLeaves.j0 k (IntKind.u64.wrap (t215 + 1)) t225 t228 true)) else (massiflaw04_CoverLeaves.j0 k (IntKind.u64.wrap (t215 + 1)) t225 t228 true))) else (massiflaw04_CoverLeaves.j0 k (IntKind.u64.wrap (t215 + 1)) t225 t228 true)) = some r := H
        have A23 := Aside0.mk A230
        clear A230
        by_cases c24 : t234 = 0
        · rw [if_pos c24] at H
          have c24b0 : (t234 == 0) = true := beq_iff_eq.mpr c24
          have c24b1 : (t234 != 0) = false := bne_eq_false_iff_eq.mpr c24
          clear c24
          (first | rw [c24b0] | (simp only [i64_w, i32_w]; rw [c24b0]) | skip)
          replace H := Option.bind_eq_some_iff.mp H
          obtain ⟨t235, A250, H⟩ := H
          replace H : (if t235 = 0 then (if t232 = (IntKind.u64.wrap ((t228.length : Int))) then ((num_Ceil.f k (IntKind.u64.wrap (t215 + 1))).bind fun t236 => (massiflaw04_CoverLeaves.j0 k (IntKind.u64.wrap (t215 + 1)) t225 t228 (decide ((t228.length : Int) > (wrap64 ((wrap64 ((t225.length : Int) * t236)) + 40)))))) else (massiflaw04_CoverLeaves.j0 k (IntKind.u64.wrap (t215 + 1)) t225 t228 true)) else (massiflaw04_CoverLeaves.j0 k (IntKind.u64.wrap (t215 + 1)) t225 t228 true)) = some r := H
          have A25 := Aside0.mk A250
          clear A250
          by_cases c26 : t235 = 0
          · rw [if_pos c26] at H
            have c26b0 : (t235 == 0) = true := beq_iff_eq.mpr c26
            have c26b1 : (t235 != 0) = false := bne_eq_false_iff_eq.mpr c26
            clear c26
            by_cases c27 : t232 = (IntKind.u64.wrap ((t228.length : Int)))
            · rw [if_pos c27] at H
              have c27b0 : (t232 == (IntKind.u64.wrap ((t228.length : Int)))) = true := beq_iff_eq.mpr c27
              have c27b1 : (t232 != (IntKind.u64.wrap ((t228.length : Int)))) = false := bne_eq_false_iff_eq.mpr c27
              clear c27
              replace H := Option.bind_eq_some_iff.mp H
              obtain ⟨t236, A280, H⟩ := H
              replace H : (massiflaw04_CoverLeaves.j0 k (IntKind.u64.wrap (t215 + 1)) t225 t228 (decide ((t228.length : Int) > (wrap64 ((wrap64 ((t225.length : Int) * t236)) + 40))))) = some r := H
              have A28 := Aside0.mk A280
              clear A280
              have H' := Aside0.mk H
              clear H
              go_wp2_with (first | ((with_reducible refine gate_callee (f := 19) rfl ?_); refine goesL_ (some 50) rfl rfl Try.func19 (by kernel_rfl) rfl #[.int .i64 t229] rfl (by (try simp only [List.map_toArray, List.map_cons, List.map_nil]); first | done | rfl | (simp only [List.length_drop, List.length_take]; rfl)) ?_; (with_reducible refine (massiflaw04_num.calls t229 t234 _ A23.out).mono ?_); rintro e w' ⟨rfl, ⟨nd, rfl⟩⟩; refine ⟨_, rfl, ?_⟩) | (go_at_call 19; (with_reducible refine (massiflaw04_num.calls t233 t235 _ A25.out).mono ?_); rintro e w' ⟨rfl, ⟨nd, rfl⟩⟩; obtain ⟨Ao29, co29, eo29⟩ := Kd.R_slice HO231.out; subst eo29) | (go_at_call 29; (with_reducible refine (num_Ceil.calls k (IntKind.u64.wrap (t215 + 1)) t236 _ A28.out).mono ?_); rintro e w' ⟨rfl, ⟨nd, rfl⟩⟩))
              go_meet
              case rel => exact ⟨_, (decide ((t228.length : Int) > (wrap64 ((wrap64 ((t225.length : Int) * t236)) + 40)))), (by first | rfl | (simp; done) | (simp [*]; done)), H', ⟨by first | omega | exact Nat.le_refl _⟩, ⟨by (with_reducible repeat (first | apply Kd.R_alloc | apply Kd.R_drewN | apply Kd.R_drew)); exact Kd.R_mono HO227.out (fun _ hk => trivial)⟩, ⟨by (with_reducible repeat (first | apply Kd.R_alloc | apply Kd.R_drewN | apply Kd.R_drew)); exact HO231.out⟩, ⟨by repeat (first | (with_reducible first | exact HB.out | apply below_alloc | apply pw_below_drewN | apply below_drew1) | exact HB.out)⟩⟩
            · rw [if_neg c27] at H
              have c27b0 : (t232 == (IntKind.u64.wrap ((t228.length : Int)))) = false := beq_eq_false_iff_ne.mpr c27
              have c27b1 : (t232 != (IntKind.u64.wrap ((t228.length : Int)))) = true := bne_iff_ne.mpr c27
              have H' := Aside0.mk H
              clear H
              go_wp2_with (first | ((with_reducible refine gate_callee (f := 19) rfl ?_); refine goesL_ (some 50) rfl rfl Try.func19 (by kernel_rfl) rfl #[.int .i64 t229] rfl (by (try simp only [List.map_toArray, List.map_cons, List.map_nil]); first | done | rfl | (simp only [List.length_drop, List.length_take]; rfl)) ?_; (with_reducible refine (massiflaw04_num.calls t229 t234 _ A23.out).mono ?_); rintro e w' ⟨rfl, ⟨nd, rfl⟩⟩; refine ⟨_, rfl, ?_⟩) | (go_at_call 19; (with_reducible refine (massiflaw04_num.calls t233 t235 _ A25.out).mono ?_); rintro e w' ⟨rfl, ⟨nd, rfl⟩⟩; obtain ⟨Ao30, co30, eo30⟩ := Kd.R_slice HO231.out; subst eo30))
              go_meet
              case rel => exact ⟨_, (true), (by first | rfl | (simp; done) | (simp [*]; done)), H', ⟨by first | omega | exact Nat.le_refl _⟩, ⟨by (with_reducible repeat (first | apply Kd.R_alloc | apply Kd.R_drewN | apply Kd.R_drew)); exact Kd.R_mono HO227.out (fun _ hk => trivial)⟩, ⟨by (with_reducible repeat (first | apply Kd.R_alloc | apply Kd.R_drewN | apply Kd.R_drew)); exact HO231.out⟩, ⟨by repeat (first | (with_reducible first | exact HB.out | apply below_alloc | apply pw_below_drewN | apply below_drew1) | exact HB.out)⟩⟩
          · rw [if_neg c26] at H
            have c26b0 : (t235 == 0) = false := beq_eq_false_iff_ne.mpr c26
            have c26b1 : (t235 != 0) = true := bne_iff_ne.mpr c26
            have H' := Aside0.mk H
            clear H
            go_wp2_with (first | ((with_reducible refine gate_callee (f := 19) rfl ?_); refine goesL_ (some 50) rfl rfl Try.func19 (by kernel_rfl) rfl #[.int .i64 t229] rfl (by (try simp only [List.map_toArray, List.map_cons, List.map_nil]); first | done | rfl | (simp only [List.length_drop, List.length_take]; rfl)) ?_; (with_reducible refine (massiflaw04_num.calls t229 t234 _ A23.out).mono ?_); rintro e w' ⟨rfl, ⟨nd, rfl⟩⟩; refine ⟨_, rfl, ?_⟩) | (go_at_call 19; (with_reducible refine (massiflaw04_num.calls t233 t235 _ A25.out).mono ?_); rintro e w' ⟨rfl, ⟨nd, rfl⟩⟩))
            go_meet
            case rel => exact ⟨_, (true), (by first | rfl | (simp; done) | (simp [*]; done)), H', ⟨by first | omega | exact Nat.le_refl _⟩, ⟨by (with_reducible repeat (first | apply Kd.R_alloc | apply Kd.R_drewN | apply Kd.R_drew)); exact Kd.R_mono HO227.out (fun _ hk => trivial)⟩, ⟨by (with_reducible repeat (first | apply Kd.R_alloc | apply Kd.R_drewN | apply Kd.R_drew)); exact HO231.out⟩, ⟨by repeat (first | (with_reducible first | exact HB.out | apply below_alloc | apply pw_below_drewN | apply below_drew1) | exact HB.out)⟩⟩
        · rw [if_neg c24] at H
          have c24b0 : (t234 == 0) = false := beq_eq_false_iff_ne.mpr c24
          have c24b1 : (t234 != 0) = true := bne_iff_ne.mpr c24
          (first | rw [c24b0] | (simp only [i64_w, i32_w]; rw [c24b0]) | skip)
          have H' := Aside0.mk H
          clear H
          go_wp2_with (first | ((with_reducible refine gate_callee (f := 19) rfl ?_); refine goesL_ (some 50) rfl rfl Try.func19 (by kernel_rfl) rfl #[.int .i64 t229] rfl (by (try simp only [List.map_toArray, List.map_cons, List.map_nil]); first | done | rfl | (simp only [List.length_drop, List.length_take]; rfl)) ?_; (with_reducible refine (massiflaw04_num.calls t229 t234 _ A23.out).mono ?_); rintro e w' ⟨rfl, ⟨nd, rfl⟩⟩; refine ⟨_, rfl, ?_⟩))
          go_meet
          case rel => exact ⟨_, (true), (by first | rfl | (simp; done) | (simp [*]; done)), H', ⟨by first | omega | exact Nat.le_refl _⟩, ⟨by (with_reducible repeat (first | apply Kd.R_alloc | apply Kd.R_drewN | apply Kd.R_drew)); exact Kd.R_mono HO227.out (fun _ hk => trivial)⟩, ⟨by (with_reducible repeat (first | apply Kd.R_alloc | apply Kd.R_drewN | apply Kd.R_drew)); exact HO231.out⟩, ⟨by repeat (first | (with_reducible first | exact HB.out | apply below_alloc | apply pw_below_drewN | apply below_drew1) | exact HB.out)⟩⟩
      case rest =>
        clear HC11
        try clear c1
        try clear c2
        try clear p2
        try clear c4
        try clear c6
        try clear p6
        try clear c7
        try clear c14
        try clear c19
        try clear c21
        try clear c23
        try clear c24
        try clear c24b0
        try clear c24b1
        try clear c26
        try clear c26b0
        try clear c26b1
        try clear c27
        try clear c27b0
        try clear c27b1
        try clear c28
        obtain ⟨kq, x74_10, rfl, HA, HJ10, HO_6, HO_7, HB⟩ := hcut
        cases kq with
        | zero => exact absurd HA.out (by simp [massiflaw04_CoverLeaves.j0])
        | succ kj10 =>
          have H := HA.out
          clear HA
          simp only [massiflaw04_CoverLeaves.j0] at H
          by_cases c31 : x74_10 = true
          · subst c31
            have H1 : (some false) = some r := by rw [if_pos rfl] at H; exact H
            clear H
            have H := H1
            clear H1
            obtain rfl := Option.some.inj H
            go_wp2
            go_ret
            exact ⟨by first | rfl | (simp [errW_none, errW_some] <;> rfl) | (simp [*, errW_none, errW_some] <;> rfl), by repeat (first | (with_reducible first | exact HB.out | apply below_alloc | apply pw_below_drewN | apply below_drew1) | exact HB.out)⟩
          · replace c31 := Bool.eq_false_iff.mpr c31
            subst c31
            have H1 : (massiflaw04_CoverLeaves.l0 kj10 (IntKind.u64.wrap (t215 + 1)) t225 t228 0 0 0) = some r := by rw [if_neg (show ¬ (false = true) by decide)] at H; exact H
            clear H
            have H := H1
            clear H1
            have H' := Aside0.mk H
            clear H
            go_wp2
            go_loopg [11, 12, 13] kj10 (fun kq v11 v12 v13 w' => ∃ (x11_2 : Int) (x12_2 : Int) (x13_2 : Int), v11 = .int .u64 x11_2 ∧ v12 = .int .i64 x12_2 ∧ v13 = .int .i64 x13_2 ∧ Aside0 (massiflaw04_CoverLeaves.l0 kq (IntKind.u64.wrap (t215 + 1)) t225 t228 x11_2 x12_2 x13_2 = some r) ∧ Aside0 (kq ≤ kj10) ∧ Aside0 (Kd.R (Kd.int .u64) 22 w' w.heap.size (fun _ => True) (.slice Ao20 t225.length co20) t225) ∧ Aside0 (Kd.R k43 43 w' w.heap.size (fun _ => True) v230 t228) ∧ Aside0 (Below w.heap.size w w'))
            case atStart => exact ⟨(0), (0), (0), (by first | rfl | (simp; done) | (simp [*]; done)), (by first | rfl | (simp; done) | (simp [*]; done)), (by first | rfl | (simp; done) | (simp [*]; done)), H', ⟨Nat.le_refl _⟩, ⟨by (with_reducible repeat (first | apply Kd.R_alloc | apply Kd.R_drewN | apply Kd.R_drew)); exact HO_6.out⟩, ⟨by (with_reducible repeat (first | apply Kd.R_alloc | apply Kd.R_drewN | apply Kd.R_drew)); exact HO_7.out⟩, ⟨by repeat (first | (with_reducible first | exact HB.out | apply below_alloc | apply pw_below_drewN | apply below_drew1) | exact HB.out)⟩⟩
            case round =>
              clear H'
              try clear c1
              try clear c2
              try clear p2
              try clear c3
              try clear c4
              try clear c6
              try clear p6
              try clear c7
              try clear c14
              try clear c19
              try clear c21
              try clear c23
              try clear c24
              try clear c24b0
              try clear c24b1
              try clear c26
              try clear c26b0
              try clear c26b1
              try clear c27
              try clear c27b0
              try clear c27b1
              try clear c28
              try clear c31
              try clear p2
              try clear p6
              obtain ⟨x11_2, x12_2, x13_2, rfl, rfl, rfl, HA, HK2, HO_6, HO_7, HB⟩ := hrel
              cases gk with
              | zero => exact absurd HA.out (by simp [massiflaw04_CoverLeaves.l0])
              | succ k2 =>
                have H := HA.out
                clear HA
                simp only [massiflaw04_CoverLeaves.l0] at H
                have HC32 := Aside0.mk H
                clear H
                go_upto_region 11 with (fail)
                go_cut [84] (fun v84 wc => ∃ (kq : Nat) (x84_31 : Bool), v84 = .bool x84_31 ∧ Aside0 (massiflaw04_CoverLeaves.j2 kq (IntKind.u64.wrap (t215 + 1)) t225 t228 x11_2 x12_2 x13_2 x84_31 = some r) ∧ Aside0 (kq ≤ k2) ∧ Aside0 (Kd.R (Kd.int .u64) 22 wc w.heap.size (fun _ => True) (.slice Ao20 t225.length co20) t225) ∧ Aside0 (Kd.R k43 43 wc w.heap.size (fun _ => True) v230 t228) ∧ Aside0 (Below w.heap.size w wc))
                case first =>
                  have H := HC32.out
                  clear HC32
                  by_cases c33 : x12_2 < (t228.length : Int)
                  · rw [if_pos c33] at H
                    have c33b0 : decide (x12_2 < (t228.length : Int)) = true := decide_eq_true c33
                    clear c33
                    (first | rw [c33b0] | (simp only [i64_w, i32_w]; rw [c33b0]) | skip)
                    have H' := Aside0.mk H
                    clear H
                    obtain ⟨Ao34, co34, eo34⟩ := Kd.R_slice HO_7.out
                    subst eo34
                    go_wp2
                    go_meet
                    case rel => exact ⟨_, (true), (by first | rfl | (simp; done) | (simp [*]; done)), H', ⟨by have := HJ10.out; have := HK2.out; first | omega | exact Nat.le_refl _⟩, ⟨by (with_reducible repeat (first | apply Kd.R_alloc | apply Kd.R_drewN | apply Kd.R_drew)); exact HO_6.out⟩, ⟨by (with_reducible repeat (first | apply Kd.R_alloc | apply Kd.R_drewN | apply Kd.R_drew)); exact HO_7.out⟩, ⟨by repeat (first | (with_reducible first | exact HB.out | apply below_alloc | apply pw_below_drewN | apply below_drew1) | exact HB.out)⟩⟩
                  · rw [if_neg c33] at H
                    have c33b0 : decide (x12_2 < (t228.length : Int)) = false := decide_eq_false c33
                    clear c33
                    (first | rw [c33b0] | (simp only [i64_w, i32_w]; rw [c33b0]) | skip)
                    have H' := Aside0.mk H
                    clear H
                    obtain ⟨Ao35, co35, eo35⟩ := Kd.R_slice HO_7.out
                    subst eo35
                    go_wp2
                    go_meet
                    case rel => exact ⟨_, (decide (x13_2 < (t225.length : Int))), (by first | rfl | (simp; done) | (simp [*]; done)), H', ⟨by have := HJ10.out; have := HK2.out; first | omega | exact Nat.le_refl _⟩, ⟨by (with_reducible repeat (first | apply Kd.R_alloc | apply Kd.R_drewN | apply Kd.R_drew)); exact HO_6.out⟩, ⟨by (with_reducible repeat (first | apply Kd.R_alloc | apply Kd.R_drewN | apply Kd.R_drew)); exact HO_7.out⟩, ⟨by repeat (first | (with_reducible first | exact HB.out | apply below_alloc | apply pw_below_drewN | apply below_drew1) | exact HB.out)⟩⟩
                case rest =>
                  clear HC32
                  try clear c1
                  try clear c2
                  try clear p2
                  try clear c3
                  try clear c4
                  try clear c6
                  try clear p6
                  try clear c7
                  try clear c14
                  try clear c19
                  try clear c21
                  try clear c23
                  try clear c24
                  try clear c24b0
                  try clear c24b1
                  try clear c26
                  try clear c26b0
                  try clear c26b1
                  try clear c27
                  try clear c27b0
                  try clear c27b1
                  try clear c28
                  try clear c31
                  try clear c33
                  try clear c33b0
                  try clear p2
                  try clear p6
                  obtain ⟨kq, x84_31, rfl, HA, HJ31, HO_6, HO_7, HB⟩ := hcut
                  cases kq with
                  | zero => exact absurd HA.out (by simp [massiflaw04_CoverLeaves.j2])
                  | succ kj31 =>
                    have H := HA.out
                    clear HA
                    simp only [massiflaw04_CoverLeaves.j2] at H
                    by_cases c36 : x84_31 = true
                    · subst c36
                      have H1 : (if x13_2 < (t225.length : Int) then (if 0 ≤ x13_2 then (massiflaw04_CoverLeaves.j3 kj31 (IntKind.u64.wrap (t215 + 1)) t225 t228 x11_2 x12_2 x13_2 ((rd t225 x13_2) == x11_2)) else (none)) else (massiflaw04_CoverLeaves.j3 kj31 (IntKind.u64.wrap (t215 + 1)) t225 t228 x11_2 x12_2 x13_2 false)) = some r := by rw [if_pos rfl] at H; exact H
                      clear H
                      have H := H1
                      clear H1
                      have HC37 := Aside0.mk H
                      clear H
                      go_upto_region 12 with (fail)
                      go_cut [96] (fun v96 wc => ∃ (kq : Nat) (x96_36 : Bool), v96 = .bool x96_36 ∧ Aside0 (massiflaw04_CoverLeaves.j3 kq (IntKind.u64.wrap (t215 + 1)) t225 t228 x11_2 x12_2 x13_2 x96_36 = some r) ∧ Aside0 (kq ≤ kj31) ∧ Aside0 (Kd.R (Kd.int .u64) 22 wc w.heap.size (fun _ => True) (.slice Ao20 t225.length co20) t225) ∧ Aside0 (Kd.R k43 43 wc w.heap.size (fun _ => True) v230 t228) ∧ Aside0 (Below w.heap.size w wc))
                      case first =>
                        have H := HC37.out
                        clear HC37
                        by_cases c38 : x13_2 < (t225.length : Int)
                        · rw [if_pos c38] at H
                          have c38b0 : decide (x13_2 < (t225.length : Int)) = true := decide_eq_true c38
                          clear c38
                          (first | rw [c38b0] | (simp only [i64_w, i32_w]; rw [c38b0]) | skip)
                          by_cases c39 : 0 ≤ x13_2
                          · rw [if_pos c39] at H
                            have c39b0 : decide (0 ≤ x13_2) = true := decide_eq_true c39
                            clear c39
                            have H' := Aside0.mk H
                            clear H
                            have p237 : 0 ≤ (x13_2 : Int) := of_decide_eq_true (by first | (with_reducible assumption) | assumption)
                            have q237 : x13_2 < (t225.length : Int) := of_decide_eq_true (by first | (with_reducible assumption) | assumption)
                            obtain ⟨ad237, e237, hx237_0⟩ := Kd.at_int (Kd.R_reads' HO_6.out).2.2 x13_2 p237 q237
                            cases e237
                            replace p237 := eq_true p237
                            replace q237 := eq_true q237
                            go_wp2
                            go_meet
                            case rel => exact ⟨_, (((rd t225 x13_2) == x11_2)), (by first | rfl | (simp; done) | (simp [*]; done)), H', ⟨by have := HJ10.out; have := HK2.out; have := HJ31.out; first | omega | exact Nat.le_refl _⟩, ⟨by (with_reducible repeat (first | apply Kd.R_alloc | apply Kd.R_drewN | apply Kd.R_drew)); exact HO_6.out⟩, ⟨by (with_reducible repeat (first | apply Kd.R_alloc | apply Kd.R_drewN | apply Kd.R_drew)); exact HO_7.out⟩, ⟨by repeat (first | (with_reducible first | exact HB.out | apply below_alloc | apply pw_below_drewN | apply below_drew1) | exact HB.out)⟩⟩
                          · rw [if_neg c39] at H
                            exact absurd H (by simp)
                        · rw [if_neg c38] at H
                          have c38b0 : decide (x13_2 < (t225.length : Int)) = false := decide_eq_false c38
                          clear c38
                          (first | rw [c38b0] | (simp only [i64_w, i32_w]; rw [c38b0]) | skip)
                          have H' := Aside0.mk H
                          clear H
                          go_wp2
                          go_meet
                          case rel => exact ⟨_, (false), (by first | rfl | (simp; done) | (simp [*]; done)), H', ⟨by have := HJ10.out; have := HK2.out; have := HJ31.out; first | omega | exact Nat.le_refl _⟩, ⟨by (with_reducible repeat (first | apply Kd.R_alloc | apply Kd.R_drewN | apply Kd.R_drew)); exact HO_6.out⟩, ⟨by (with_reducible repeat (first | apply Kd.R_alloc | apply Kd.R_drewN | apply Kd.R_drew)); exact HO_7.out⟩, ⟨by repeat (first | (with_reducible first | exact HB.out | apply below_alloc | apply pw_below_drewN | apply below_drew1) | exact HB.out)⟩⟩
                      case rest =>
                        clear HC37
                        try clear c1
                        try clear c2
                        try clear p2
                        try clear q2
                        try clear hx2
                        try clear c3
                        try clear c4
                        try clear c6
                        try clear p6
                        try clear c7
                        try clear c14
                        try clear c19
                        try clear c21
                        try clear c23
                        try clear p23
                        try clear q23
                        try clear hx23
                        try clear c24
                        try clear c24b0
                        try clear c24b1
                        try clear c26
                        try clear c26b0
                        try clear c26b1
                        try clear c27
                        try clear c27b0
                        try clear c27b1
                        try clear c28
                        try clear c31
                        try clear c33
                        try clear c33b0
                        try clear c36
                        try clear c38
                        try clear c38b0
                        try clear c39
                        try clear c39b0
                        try clear hx237_0
                        try clear p2
                        try clear p237
                        try clear p6
                        try clear q237
                        obtain ⟨kq, x96_36, rfl, HA, HJ36, HO_6, HO_7, HB⟩ := hcut
                        cases kq with
                        | zero => exact absurd HA.out (by simp [massiflaw04_CoverLeaves.j3])
                        | succ kj36 =>
                          have H := HA.out
                          clear HA
                          simp only [massiflaw04_CoverLeaves.j3] at H
                          by_cases c40 : x96_36 = true
                          · subst c40
                            have H1 : (massiflaw04_CoverLeaves.l0 kj36 (IntKind.u64.wrap (t215 + 1)) t225 t228 (IntKind.u64.wrap (x11_2 + 1)) x12_2 (wrap64 (x13_2 + 1))) = some r := by rw [if_pos rfl] at H; exact H
                            clear H
                            have H := H1
                            clear H1
                            have H' := Aside0.mk H
                            clear H
                            go_wp2
                            go_roundg kj36
                            case measure => have := HJ10.out; have := HK2.out; have := HJ31.out; have := HJ36.out; omega
                            case rel => exact ⟨(IntKind.u64.wrap (x11_2 + 1)), (x12_2), (wrap64 (x13_2 + 1)), (by first | rfl | (simp; done) | (simp [*]; done)), (by first | rfl | (simp; done) | (simp [*]; done)), (by first | rfl | (simp; done) | (simp [*]; done)), H', ⟨by have := HJ10.out; have := HK2.out; have := HJ31.out; have := HJ36.out; omega⟩, ⟨by (with_reducible repeat (first | apply Kd.R_alloc | apply Kd.R_drewN | apply Kd.R_drew)); exact HO_6.out⟩, ⟨by (with_reducible repeat (first | apply Kd.R_alloc | apply Kd.R_drewN | apply Kd.R_drew)); exact HO_7.out⟩, ⟨by repeat (first | (with_reducible first | exact HB.out | apply below_alloc | apply pw_below_drewN | apply below_drew1) | exact HB.out)⟩⟩
                          · replace c40 := Bool.eq_false_iff.mpr c40
                            subst c40
                            have H1 : (if x12_2 = (t228.length : Int) then (some false) else (if 0 ≤ x12_2 then (if x12_2 < (t228.length : Int) then ((massiflaw04_span.f ((rd_T43 t228 x12_2).f0) ((rd_T43 t228 x12_2).f1)).bind fun bt239 => (if bt239.2.2 = true then (if bt239.1 = x11_2 then (massiflaw04_CoverLeaves.j4 kj36 (IntKind.u64.wrap (t215 + 1)) t225 t228 x12_2 x13_2 (decide (bt239.2.1 > (IntKind.u64.wrap (t215 + 1))))) else (massiflaw04_CoverLeaves.j4 kj36 (IntKind.u64.wrap (t215 + 1)) t225 t228 x12_2 x13_2 true)) else (massiflaw04_CoverLeaves.j4 kj36 (IntKind.u64.wrap (t215 + 1)) t225 t228 x12_2 x13_2 true))) else (none)) else (none))) = some r := by rw [if_neg (show ¬ (false = true) by decide)] at H; exact H
                            clear H
                            have H := H1
                            clear H1
                            by_cases c41 : x12_2 = (t228.length : Int)
                            · rw [if_pos c41] at H
                              have c41b0 : (x12_2 == (t228.length : Int)) = true := beq_iff_eq.mpr c41
                              have c41b1 : (x12_2 != (t228.length : Int)) = false := bne_eq_false_iff_eq.mpr c41
                              clear c41
                              obtain rfl := Option.some.inj H
                              obtain ⟨Ao42, co42, eo42⟩ := Kd.R_slice HO_7.out
                              subst eo42
                              go_wp2
                              go_ret
                              exact ⟨by first | rfl | (simp [errW_none, errW_some] <;> rfl) | (simp [*, errW_none, errW_some] <;> rfl), by repeat (first | (with_reducible first | exact HB.out | apply below_alloc | apply pw_below_drewN | apply below_drew1) | exact HB.out)⟩
                            · rw [if_neg c41] at H
                              have c41b0 : (x12_2 == (t228.length : Int)) = false := beq_eq_false_iff_ne.mpr c41
                              have c41b1 : (x12_2 != (t228.length : Int)) = true := bne_iff_ne.mpr c41
                              by_cases c43 : 0 ≤ x12_2
                              · rw [if_pos c43] at H
                                have c43b0 : decide (0 ≤ x12_2) = true := decide_eq_true c43
                                clear c43
                                by_cases c44 : x12_2 < (t228.length : Int)
                                · rw [if_pos c44] at H
                                  have c44b0 : decide (x12_2 < (t228.length : Int)) = true := decide_eq_true c44
                                  clear c44
                                  replace H := Option.bind_eq_some_iff.mp H
                                  obtain ⟨⟨t239, t240, t241⟩, A450, H⟩ := H
                                  replace H : (if t241 = true then (if t239 = x11_2 then (massiflaw04_CoverLeaves.j4 kj36 (IntKind.u64.wrap (t215 + 1)) t225 t228 x12_2 x13_2 (decide (t240 > (IntKind.u64.wrap (t215 + 1))))) else (massiflaw04_CoverLeaves.j4 kj36 (IntKind.u64.wrap (t215 + 1)) t225 t228 x12_2 x13_2 true)) else (massiflaw04_CoverLeaves.j4 kj36 (IntKind.u64.wrap (t215 + 1)) t225 t228 x12_2 x13_2 true)) = some r := H
                                  have A45 := Aside0.mk A450
                                  clear A450
                                  have HC46 := Aside0.mk H
                                  clear H
                                  obtain ⟨Ao47, co47, eo47⟩ := Kd.R_slice HO_7.out
                                  subst eo47
                                  have p238 : 0 ≤ (x12_2 : Int) := of_decide_eq_true (by first | (with_reducible assumption) | assumption)
                                  have q238 : x12_2 < (t228.length : Int) := of_decide_eq_true (by first | (with_reducible assumption) | assumption)
                                  obtain ⟨ad238, e238, hx238_0, hx238_1⟩ := at_T43 (Kd.R_reads' HO_7.out).2.2 x12_2 p238 q238
                                  cases e238
                                  replace p238 := eq_true p238
                                  replace q238 := eq_true q238
                                  go_upto_region 18 with (first | ((with_reducible refine gate_callee (f := 30) rfl ?_); refine goesL_ (some 110) rfl rfl Try.func30 (by kernel_rfl) rfl #[.agg #[.int .i64 ((rd_T43 t228 x12_2).f0), .int .u64 ((rd_T43 t228 x12_2).f1)]] rfl (by (try simp only [List.map_toArray, List.map_cons, List.map_nil]); first | done | rfl | (simp only [List.length_drop, List.length_take]; rfl)) ?_; (with_reducible refine (massiflaw04_span.calls ((rd_T43 t228 x12_2).f0) ((rd_T43 t228 x12_2).f1) t239 t240 t241 _ A45.out).mono ?_); rintro e w48 ⟨rfl, hb⟩; refine ⟨_, rfl, ?_⟩; have n0_ := Aside0.mk (Kd.R_below (by (with_reducible repeat (first | apply Kd.R_alloc | apply Kd.R_drewN | apply Kd.R_drew)); exact HO_6.out) hb); have n1_ := Aside0.mk (Kd.R_below (by (with_reducible repeat (first | apply Kd.R_alloc | apply Kd.R_drewN | apply Kd.R_drew)); exact HO_7.out) hb); have n2_ := Aside0.mk (below_step (by repeat (first | (with_reducible first | exact HB.out | apply below_alloc | apply pw_below_drewN | apply below_drew1) | exact HB.out)) hb); clear HO_6; clear HO_7; clear HB; have HO_6 := n0_; have HO_7 := n1_; have HB := n2_; clear n0_ n1_ n2_; (try clear hb); (try clear hb2); (try clear hk); (try clear hi)))
                                  (try simp only [Act.put, List.setIfInBounds_toArray, List.set_cons_zero, List.set_cons_succ])
                                  go_cut [125] (fun v125 wc => ∃ (kq : Nat) (x125_45 : Bool), v125 = .bool x125_45 ∧ Aside0 (massiflaw04_CoverLeaves.j4 kq (IntKind.u64.wrap (t215 + 1)) t225 t228 x12_2 x13_2 x125_45 = some r) ∧ Aside0 (kq ≤ kj36) ∧ Aside0 (Kd.R (Kd.int .u64) 22 wc w.heap.size (fun _ => True) (.slice Ao20 t225.length co20) t225) ∧ Aside0 (Kd.R k43 43 wc w.heap.size (fun _ => True) (.slice (some ad238) t228.length co47) t228) ∧ Aside0 (Below w.heap.size w wc))
                                  case first =>
                                    have H := HC46.out
                                    clear HC46
                                    by_cases c49 : t241 = true
                                    · subst c49
                                      have H1 : (if t239 = x11_2 then (massiflaw04_CoverLeaves.j4 kj36 (IntKind.u64.wrap (t215 + 1)) t225 t228 x12_2 x13_2 (decide (t240 > (IntKind.u64.wrap (t215 + 1))))) else (massiflaw04_CoverLeaves.j4 kj36 (IntKind.u64.wrap (t215 + 1)) t225 t228 x12_2 x13_2 true)) = some r := by rw [if_pos rfl] at H; exact H
                                      clear H
                                      have H := H1
                                      clear H1
                                      by_cases c50 : t239 = x11_2
                                      · rw [if_pos c50] at H
                                        have c50b0 : (t239 == x11_2) = true := beq_iff_eq.mpr c50
                                        have c50b1 : (t239 != x11_2) = false := bne_eq_false_iff_eq.mpr c50
                                        clear c50
                                        (first | rw [c50b0] | (simp only [i64_w, i32_w]; rw [c50b0]) | skip)
                                        have H' := Aside0.mk H
                                        clear H
                                        go_wp2
                                        go_meet
                                        case rel => exact ⟨_, (decide (t240 > (IntKind.u64.wrap (t215 + 1)))), (by first | rfl | (simp; done) | (simp [*]; done)), H', ⟨by have := HJ10.out; have := HK2.out; have := HJ31.out; have := HJ36.out; first | omega | exact Nat.le_refl _⟩, ⟨by (with_reducible repeat (first | apply Kd.R_alloc | apply Kd.R_drewN | apply Kd.R_drew)); exact HO_6.out⟩, ⟨by (with_reducible repeat (first | apply Kd.R_alloc | apply Kd.R_drewN | apply Kd.R_drew)); exact HO_7.out⟩, ⟨by repeat (first | (with_reducible first | exact HB.out | apply below_alloc | apply pw_below_drewN | apply below_drew1) | exact HB.out)⟩⟩
                                      · rw [if_neg c50] at H
                                        have c50b0 : (t239 == x11_2) = false := beq_eq_false_iff_ne.mpr c50
                                        have c50b1 : (t239 != x11_2) = true := bne_iff_ne.mpr c50
                                        (first | rw [c50b0] | (simp only [i64_w, i32_w]; rw [c50b0]) | skip)
                                        have H' := Aside0.mk H
                                        clear H
                                        go_wp2
                                        go_meet
                                        case rel => exact ⟨_, (true), (by first | rfl | (simp; done) | (simp [*]; done)), H', ⟨by have := HJ10.out; have := HK2.out; have := HJ31.out; have := HJ36.out; first | omega | exact Nat.le_refl _⟩, ⟨by (with_reducible repeat (first | apply Kd.R_alloc | apply Kd.R_drewN | apply Kd.R_drew)); exact HO_6.out⟩, ⟨by (with_reducible repeat (first | apply Kd.R_alloc | apply Kd.R_drewN | apply Kd.R_drew)); exact HO_7.out⟩, ⟨by repeat (first | (with_reducible first | exact HB.out | apply below_alloc | apply pw_below_drewN | apply below_drew1) | exact HB.out)⟩⟩
                                    · replace c49 := Bool.eq_false_iff.mpr c49
                                      subst c49
                                      have H1 : (massiflaw04_CoverLeaves.j4 kj36 (IntKind.u64.wrap (t215 + 1)) t225 t228 x12_2 x13_2 true) = some r := by rw [if_neg (show ¬ (false = true) by decide)] at H; exact H
                                      clear H
                                      have H := H1
                                      clear H1
                                      have H' := Aside0.mk H
                                      clear H
                                      go_wp2
                                      go_meet
                                      case rel => exact ⟨_, (true), (by first | rfl | (simp; done) | (simp [*]; done)), H', ⟨by have := HJ10.out; have := HK2.out; have := HJ31.out; have := HJ36.out; first | omega | exact Nat.le_refl _⟩, ⟨by (with_reducible repeat (first | apply Kd.R_alloc | apply Kd.R_drewN | apply Kd.R_drew)); exact HO_6.out⟩, ⟨by (with_reducible repeat (first | apply Kd.R_alloc | apply Kd.R_drewN | apply Kd.R_drew)); exact HO_7.out⟩, ⟨by repeat (first | (with_reducible first | exact HB.out | apply below_alloc | apply pw_below_drewN | apply below_drew1) | exact HB.out)⟩⟩
                                  case rest =>
                                    clear HC46
                                    try clear c1
                                    try clear c2
                                    try clear p2
                                    try clear q2
                                    try clear hx2
                                    try clear c3
                                    try clear c4
                                    try clear c5
                                    try clear c6
                                    try clear p6
                                    try clear c7
                                    try clear c14
                                    try clear c19
                                    try clear c21
                                    try clear c23
                                    try clear p23
                                    try clear q23
                                    try clear hx23
                                    try clear c24
                                    try clear c24b0
                                    try clear c24b1
                                    try clear c26
                                    try clear c26b0
                                    try clear c26b1
                                    try clear c27
                                    try clear c27b0
                                    try clear c27b1
                                    try clear c28
                                    try clear c30
                                    try clear c31
                                    try clear c33
                                    try clear c33b0
                                    try clear c36
                                    try clear c38
                                    try clear c38b0
                                    try clear c39
                                    try clear c39b0
                                    try clear c40
                                    try clear c41
                                    try clear c41b0
                                    try clear c41b1
                                    try clear c43
                                    try clear c43b0
                                    try clear c44
                                    try clear c44b0
                                    try clear c49
                                    try clear c50
                                    try clear c50b0
                                    try clear c50b1
                                    try clear hx237_0
                                    try clear hx238_0
                                    try clear hx238_1
                                    try clear p2
                                    try clear p23
                                    try clear p237
                                    try clear p238
                                    try clear p6
                                    try clear q2
                                    try clear q23
                                    try clear q237
                                    try clear q238
                                    obtain ⟨kq, x125_45, rfl, HA, HJ45, HO_6, HO_7, HB⟩ := hcut
                                    cases kq with
                                    | zero => exact absurd HA.out (by simp [massiflaw04_CoverLeaves.j4])
                                    | succ kj45 =>
                                      have H := HA.out
                                      clear HA
                                      simp only [massiflaw04_CoverLeaves.j4] at H
                                      by_cases c51 : x125_45 = true
                                      · subst c51
                                        have H1 : (some false) = some r := by rw [if_pos rfl] at H; exact H
                                        clear H
                                        have H := H1
                                        clear H1
                                        obtain rfl := Option.some.inj H
                                        go_wp2
                                        go_ret
                                        exact ⟨by first | rfl | (simp [errW_none, errW_some] <;> rfl) | (simp [*, errW_none, errW_some] <;> rfl), by repeat (first | (with_reducible first | exact HB.out | apply below_alloc | apply pw_below_drewN | apply below_drew1) | exact HB.out)⟩
                                      · replace c51 := Bool.eq_false_iff.mpr c51
                                        subst c51
                                        have H1 : (if 0 ≤ x12_2 then (if x12_2 < (t228.length : Int) then ((massiflaw04_span.f (wrap64 (((rd_T43 t228 x12_2).f0) + 1)) (IntKind.u64.wrap (Int.tdiv ((rd_T43 t228 x12_2).f1) 2))).bind fun bt244 => (if bt244.2.2 = true then (if bt244.2.1 ≤ (IntKind.u64.wrap (t215 + 1)) then ((massiflaw04_holds.f kj45 t225 bt244.1 bt244.2.1).bind fun t247 => (if t247 = true then ((massiflaw04_span.f ((rd_T43 t228 x12_2).f0) ((rd_T43 t228 x12_2).f1)).bind fun bt249 => (massiflaw04_CoverLeaves.l0 kj45 (IntKind.u64.wrap (t215 + 1)) t225 t228 bt249.2.1 (wrap64 (x12_2 + 1)) x13_2)) else (some false))) else ((massiflaw04_span.f ((rd_T43 t228 x12_2).f0) ((rd_T43 t228 x12_2).f1)).bind fun bt253 => (massiflaw04_CoverLeaves.l0 kj45 (IntKind.u64.wrap (t215 + 1)) t225 t228 bt253.2.1 (wrap64 (x12_2 + 1)) x13_2))) else ((massiflaw04_span.f ((rd_T43 t228 x12_2).f0) ((rd_T43 t228 x12_2).f1)).bind fun bt257 => (massiflaw04_CoverLeaves.l0 kj45 (IntKind.u64.wrap (t215 + 1)) t225 t228 bt257.2.1 (wrap64 (x12_2 + 1)) x13_2)))) else (none)) else (none)) = some r := by rw [if_neg (show ¬ (false = true) by decide)] at H; exact H
                                        clear H
                                        have H := H1
                                        clear H1
                                        by_cases c52 : 0 ≤ x12_2
                                        · rw [if_pos c52] at H
                                          have c52b0 : decide (0 ≤ x12_2) = true := decide_eq_true c52
                                          clear c52
                                          by_cases c53 : x12_2 < (t228.length : Int)
                                          · rw [if_pos c53] at H
                                            have c53b0 : decide (x12_2 < (t228.length : Int)) = true := decide_eq_true c53
                                            clear c53
                                            replace H := Option.bind_eq_some_iff.mp H
                                            obtain ⟨⟨t244, t245, t246⟩, A540, H⟩ := H
                                            replace H : (if t246 = true then (if t245 ≤ (IntKind.u64.wrap (t215 + 1)) then ((massiflaw04_holds.f kj45 t225 t244 t245).bind fun t247 => (if t247 = true then ((massiflaw04_span.f ((rd_T43 t228 x12_2).f0) ((rd_T43 t228 x12_2).f1)).bind fun bt249 => (massiflaw04_CoverLeaves.l0 kj45 (IntKind.u64.wrap (t215 + 1)) t225 t228 bt249.2.1 (wrap64 (x12_2 + 1)) x13_2)) else (some false))) else ((massiflaw04_span.f ((rd_T43 t228 x12_2).f0) ((rd_T43 t228 x12_2).f1)).bind fun bt253 => (massiflaw04_CoverLeaves.l0 kj45 (IntKind.u64.wrap (t215 + 1)) t225 t228 bt253.2.1 (wrap64 (x12_2 + 1)) x13_2))) else ((massiflaw04_span.f ((rd_T43 t228 x12_2).f0) ((rd_T43 t228 x12_2).f1)).bind fun bt257 => (massiflaw04_CoverLeaves.l0 kj45 (IntKind.u64.wrap (t215 + 1)) t225 t228 bt257.2.1 (wrap64 (x12_2 + 1)) x13_2))) = some r := H
                                            have A54 := Aside0.mk A540
                                            clear A540
                                            by_cases c55 : t246 = true
                                            · subst c55
                                              have H1 : (if t245 ≤ (IntKind.u64.wrap (t215 + 1)) then ((massiflaw04_holds.f kj45 t225 t244 t245).bind fun t247 => (if t247 = true then ((massiflaw04_span.f ((rd_T43 t228 x12_2).f0) ((rd_T43 t228 x12_2).f1)).bind fun bt249 => (massiflaw04_CoverLeaves.l0 kj45 (IntKind.u64.wrap (t215 + 1)) t225 t228 bt249.2.1 (wrap64 (x12_2 + 1)) x13_2)) else (some false))) else ((massiflaw04_span.f ((rd_T43 t228 x12_2).f0) ((rd_T43 t228 x12_2).f1)).bind fun bt253 => (massiflaw04_CoverLeaves.l0 kj45 (IntKind.u64.wrap (t215 + 1)) t225 t228 bt253.2.1 (wrap64 (x12_2 + 1)) x13_2))) = some r := by rw [if_pos rfl] at H; exact H
                                              clear H
                                              have H := H1
                                              clear H1
                                              by_cases c56 : t245 ≤ (IntKind.u64.wrap (t215 + 1))
                                              · as_aux_lemma =>
                                                  rw [if_pos c56] at H
                                                  have c56b0 : decide (t245 ≤ (IntKind.u64.wrap (t215 + 1))) = true := decide_eq_true c56
                                                  clear c56
                                                  replace H := Option.bind_eq_some_iff.mp H
                                                  obtain ⟨t247, A570, H⟩ := H
                                                  replace H : (if t247 = true then ((massiflaw04_span.f ((rd_T43 t228 x12_2).f0) ((rd_T43 t228 x12_2).f1)).bind fun bt249 => (massiflaw04_CoverLeaves.l0 kj45 (IntKind.u64.wrap (t215 + 1)) t225 t228 bt249.2.1 (wrap64 (x12_2 + 1)) x13_2)) else (some false)) = some r := H
                                                  have A57 := Aside0.mk A570
                                                  clear A570
                                                  by_cases c58 : t247 = true
                                                  · subst c58
                                                    have H1 : ((massiflaw04_span.f ((rd_T43 t228 x12_2).f0) ((rd_T43 t228 x12_2).f1)).bind fun bt249 => (massiflaw04_CoverLeaves.l0 kj45 (IntKind.u64.wrap (t215 + 1)) t225 t228 bt249.2.1 (wrap64 (x12_2 + 1)) x13_2)) = some r := by rw [if_pos rfl] at H; exact H
                                                    clear H
                                                    have H := H1
                                                    clear H1
                                                    replace H := Option.bind_eq_some_iff.mp H
                                                    obtain ⟨⟨t249, t250, t251⟩, A590, H⟩ := H
                                                    replace H : (massiflaw04_CoverLeaves.l0 kj45 (IntKind.u64.wrap (t215 + 1)) t225 t228 t250 (wrap64 (x12_2 + 1)) x13_2) = some r := H
                                                    have A59 := Aside0.mk A590
                                                    clear A590
                                                    have H' := Aside0.mk H
                                                    clear H
                                                    try go_wp2
                                                    have n0_ := Aside0.mk (Kd.R_drew HO_6.out)
                                                    have n1_ := Aside0.mk (Kd.R_drew HO_7.out)
                                                    have n2_ := Aside0.mk (below_drew1 HB.out)
                                                    clear HO_6
                                                    clear HO_7
                                                    clear HB
                                                    have HO_6 := n0_
                                                    have HO_7 := n1_
                                                    have HB := n2_
                                                    clear n0_ n1_ n2_
                                                    have p242 : 0 ≤ (x12_2 : Int) := of_decide_eq_true (by first | (with_reducible assumption) | assumption)
                                                    have q242 : x12_2 < (t228.length : Int) := of_decide_eq_true (by first | (with_reducible assumption) | assumption)
                                                    obtain ⟨ad242, e242, hx242_0, hx242_1⟩ := at_T43 (Kd.R_reads' HO_7.out).2.2 x12_2 p242 q242
                                                    obtain rfl : ad238 = ad242 := (by injection e242)
                                                    replace p242 := eq_true p242
                                                    replace q242 := eq_true q242
                                                    have p243 : 0 ≤ (x12_2 : Int) := of_decide_eq_true (by first | (with_reducible assumption) | assumption)
                                                    have q243 : x12_2 < (t228.length : Int) := of_decide_eq_true (by first | (with_reducible assumption) | assumption)
                                                    obtain ⟨ad243, e243, hx243_0, hx243_1⟩ := at_T43 (Kd.R_reads' HO_7.out).2.2 x12_2 p243 q243
                                                    obtain rfl : ad238 = ad243 := (by injection e243)
                                                    replace p243 := eq_true p243
                                                    replace q243 := eq_true q243
                                                    refine start_ (n := 21) (S := fun w' => w'.cell? (ad238.add ((x12_2).toNat * 2)) = some (.int .i64 ((rd_T43 t228 x12_2).f0)) ∧ w'.cell? ⟨(ad238.add ((x12_2).toNat * 2)).block, (ad238.add ((x12_2).toNat * 2)).off + 1, none⟩ = some (.int .u64 ((rd_T43 t228 x12_2).f1)) ∧ w'.cell? (ad238.add ((x12_2).toNat * 2)) = some (.int .i64 ((rd_T43 t228 x12_2).f0)) ∧ w'.cell? ⟨(ad238.add ((x12_2).toNat * 2)).block, (ad238.add ((x12_2).toNat * 2)).off + 1, none⟩ = some (.int .u64 ((rd_T43 t228 x12_2).f1))) (ds := []) #[false, false, false, false, false, false, false, false, false, false, false, false, false, false, false, false, false, false, false, false, false] (by kernel_rfl) rfl rfl ⟨hx242_0, hx242_1, hx243_0, hx243_1⟩ (fun hHeld => ?_); refine with_tabW massiflaw04_CoverLeaves.tab20 massiflaw04_CoverLeaves.bits20 (fun HT_ HW_ => ?_)
                                                    generalize wc.drew = w60 at HO_6 HO_7 HB hx242_0 hx242_1 hx243_0 hx243_1 hHeld ⊢
                                                    refine pure_ (i := 0) (N := some 127) (v := ?_) (a' := ?_) #[true, false, false, false, false, false, false, false, false, false, false, false, false, false, false, false, false, false, false, false, false] rfl rfl (any_of HT_.out (by kernel_rfl)) (fun _ _ _ h => h) (Or.inl ⟨by rfl, ?_⟩) ?_ ?_
                                                    rotate_left
                                                    · intro w'
                                                      go_simp
                                                      with_reducible rfl
                                                    rotate_left
                                                    · simp only [Act.put, List.setIfInBounds_toArray, List.set_cons_zero, List.set_cons_succ, i64_w, i32_w]
                                                      rfl
                                                    refine pure_ (i := 1) (N := some 128) (v := ?_) (a' := ?_) #[true, true, false, false, false, false, false, false, false, false, false, false, false, false, false, false, false, false, false, false, false] rfl rfl (any_of HT_.out (by kernel_rfl)) (fun _ _ _ h => h) (Or.inl ⟨by rfl, ?_⟩) ?_ ?_
                                                    rotate_left
                                                    · intro w'
                                                      go_simp
                                                      with_reducible rfl
                                                    rotate_left
                                                    · simp only [Act.put, List.setIfInBounds_toArray, List.set_cons_zero, List.set_cons_succ, i64_w, i32_w]
                                                      rfl
                                                    refine pure_ (i := 2) (N := some 129) (v := ?_) (a' := ?_) #[true, true, true, false, false, false, false, false, false, false, false, false, false, false, false, false, false, false, false, false, false] rfl rfl (any_of HT_.out (by kernel_rfl)) (fun _ _ _ h => h) (Or.inl ⟨by rfl, ?_⟩) ?_ ?_
                                                    rotate_left
                                                    · intro w'
                                                      go_simp
                                                      with_reducible rfl
                                                    rotate_left
                                                    · simp only [Act.put, List.setIfInBounds_toArray, List.set_cons_zero, List.set_cons_succ, i64_w, i32_w]
                                                      rfl
                                                    refine pure_ (i := 3) (N := some 130) (v := ?_) (a' := ?_) #[true, true, true, true, false, false, false, false, false, false, false, false, false, false, false, false, false, false, false, false, false] rfl rfl (any_of HT_.out (by kernel_rfl)) (fun _ _ _ h => h) (Or.inl ⟨by rfl, ?_⟩) ?_ ?_
                                                    rotate_left
                                                    · intro w'
                                                      go_simp
                                                      with_reducible rfl
                                                    rotate_left
                                                    · simp only [Act.put, List.setIfInBounds_toArray, List.set_cons_zero, List.set_cons_succ, i64_w, i32_w]
                                                      rfl
                                                    refine pure_ (i := 6) (N := some 133) (v := ?_) (a' := ?_) #[true, true, true, true, false, false, true, false, false, false, false, false, false, false, false, false, false, false, false, false, false] rfl rfl (any_of HT_.out (by kernel_rfl)) (fun _ _ _ h => h) (Or.inl ⟨by rfl, ?_⟩) ?_ ?_
                                                    rotate_left
                                                    · intro w'
                                                      go_simp
                                                      with_reducible rfl
                                                    rotate_left
                                                    · simp only [Act.put, List.setIfInBounds_toArray, List.set_cons_zero, List.set_cons_succ, i64_w, i32_w]
                                                      rfl
                                                    refine pure_ (i := 7) (N := some 134) (v := ?_) (a' := ?_) #[true, true, true, true, false, false, true, true, false, false, false, false, false, false, false, false, false, false, false, false, false] rfl rfl (any_of HT_.out (by kernel_rfl)) (fun _ _ _ h => h) (Or.inl ⟨by rfl, ?_⟩) ?_ ?_
                                                    rotate_left
                                                    · intro w'
                                                      go_simp
                                                      with_reducible rfl
                                                    rotate_left
                                                    · simp only [Act.put, List.setIfInBounds_toArray, List.set_cons_zero, List.set_cons_succ, i64_w, i32_w]
                                                      rfl
                                                    refine pure_ (i := 8) (N := some 135) (v := ?_) (a' := ?_) #[true, true, true, true, false, false, true, true, true, false, false, false, false, false, false, false, false, false, false, false, false] rfl rfl (any_of HT_.out (by kernel_rfl)) (fun _ _ _ h => h) (Or.inl ⟨by rfl, ?_⟩) ?_ ?_
                                                    rotate_left
                                                    · intro w'
                                                      go_simp
                                                      with_reducible rfl
                                                    rotate_left
                                                    · simp only [Act.put, List.setIfInBounds_toArray, List.set_cons_zero, List.set_cons_succ, i64_w, i32_w]
                                                      rfl
                                                    refine pure_ (i := 9) (N := some 136) (v := ?_) (a' := ?_) #[true, true, true, true, false, false, true, true, true, true, false, false, false, false, false, false, false, false, false, false, false] rfl rfl (any_of HT_.out (by kernel_rfl)) (fun _ _ _ h => h) (Or.inl ⟨by rfl, ?_⟩) ?_ ?_
                                                    rotate_left
                                                    · intro w'
                                                      go_simp
                                                      with_reducible rfl
                                                    rotate_left
                                                    · simp only [Act.put, List.setIfInBounds_toArray, List.set_cons_zero, List.set_cons_succ, i64_w, i32_w]
                                                      rfl
                                                    refine take_ (i := 4) (N := some 131) (v := ?_) (a' := ?_) #[true, true, true, true, true, false, true, true, true, true, false, false, false, false, false, false, false, false, false, false, false] rfl rfl (take_ofW HT_.out HW_.out (by kernel_rfl)) (fun _ _ _ h => h) (Or.inl ⟨by rfl, ?_⟩) hHeld ?_ ?_
                                                    rotate_left
                                                    · rintro w' ⟨s0, s1, s2, s3⟩
                                                      go_simp
                                                      with_reducible rfl
                                                    rotate_left
                                                    · simp only [Act.put, List.setIfInBounds_toArray, List.set_cons_zero, List.set_cons_succ, i64_w, i32_w]
                                                      rfl
                                                    refine pure_ (i := 5) (N := some 132) (v := ?_) (a' := ?_) #[true, true, true, true, true, true, true, true, true, true, false, false, false, false, false, false, false, false, false, false, false] rfl rfl (any_of HT_.out (by kernel_rfl)) (fun _ _ _ h => h) (Or.inl ⟨by rfl, ?_⟩) ?_ ?_
                                                    rotate_left
                                                    · intro w'
                                                      go_simp
                                                      with_reducible rfl
                                                    rotate_left
                                                    · simp only [Act.put, List.setIfInBounds_toArray, List.set_cons_zero, List.set_cons_succ, i64_w, i32_w]
                                                      rfl
                                                    refine take_ (i := 10) (N := some 137) (v := ?_) (a' := ?_) #[true, true, true, true, true, true, true, true, true, true, true, false, false, false, false, false, false, false, false, false, false] rfl rfl (take_ofW HT_.out HW_.out (by kernel_rfl)) (fun _ _ _ h => h) (Or.inl ⟨by rfl, ?_⟩) hHeld ?_ ?_
                                                    rotate_left
                                                    · rintro w' ⟨s0, s1, s2, s3⟩
                                                      go_simp
                                                      with_reducible rfl
                                                    rotate_left
                                                    · simp only [Act.put, List.setIfInBounds_toArray, List.set_cons_zero, List.set_cons_succ, i64_w, i32_w]
                                                      rfl
                                                    refine pure_ (i := 11) (N := some 138) (v := ?_) (a' := ?_) #[true, true, true, true, true, true, true, true, true, true, true, true, false, false, false, false, false, false, false, false, false] rfl rfl (any_of HT_.out (by kernel_rfl)) (fun _ _ _ h => h) (Or.inl ⟨by rfl, ?_⟩) ?_ ?_
                                                    rotate_left
                                                    · intro w'
                                                      go_simp
                                                      with_reducible rfl
                                                    rotate_left
                                                    · simp only [Act.put, List.setIfInBounds_toArray, List.set_cons_zero, List.set_cons_succ, i64_w, i32_w]
                                                      rfl
                                                    refine pure_ (i := 12) (N := some 139) (v := ?_) (a' := ?_) #[true, true, true, true, true, true, true, true, true, true, true, true, true, false, false, false, false, false, false, false, false] rfl rfl (any_of HT_.out (by kernel_rfl)) (fun _ _ _ h => h) (Or.inl ⟨by rfl, ?_⟩) ?_ ?_
                                                    rotate_left
                                                    · intro w'
                                                      go_simp
                                                      with_reducible rfl
                                                    rotate_left
                                                    · simp only [Act.put, List.setIfInBounds_toArray, List.set_cons_zero, List.set_cons_succ, i64_w, i32_w]
                                                      rfl
                                                    refine one_ (i := 13) (N := some 140) #[true, true, true, true, true, true, true, true, true, true, true, true, true, true, false, false, false, false, false, false, false] rfl rfl (one_of HT_.out (by kernel_rfl)) (by decide) (fun K hK => ?_)
                                                    refine goes_ Try.func30 (by kernel_rfl) rfl #[.agg #[.int .i64 (wrap64 (((rd_T43 t228 x12_2).f0) + 1)), .int .u64 (IntKind.u64.wrap (Int.tdiv ((rd_T43 t228 x12_2).f1) 2))]] (by rfl) rfl rfl (by (try simp only [List.map_toArray, List.map_cons, List.map_nil]); first | done | rfl | (simp only [List.length_drop, List.length_take]; rfl)) ?_
                                                    with_reducible refine (massiflaw04_span.calls (wrap64 (((rd_T43 t228 x12_2).f0) + 1)) (IntKind.u64.wrap (Int.tdiv ((rd_T43 t228 x12_2).f1) 2)) t244 t245 true _ A54.out).mono ?_
                                                    rintro e w61 ⟨rfl, hb⟩
                                                    have HS0_ := (hb.cell (World.block_lt_of_cell? _ _ (hHeld.1))).trans (hHeld.1)
                                                    have HS1_ := (hb.cell (World.block_lt_of_cell? _ _ (hHeld.2.1))).trans (hHeld.2.1)
                                                    have HS2_ := (hb.cell (World.block_lt_of_cell? _ _ (hHeld.2.2.1))).trans (hHeld.2.2.1)
                                                    have HS3_ := (hb.cell (World.block_lt_of_cell? _ _ (hHeld.2.2.2))).trans (hHeld.2.2.2)
                                                    refine ⟨_, rfl, ?_⟩
                                                    have n0_ := Aside0.mk (Kd.R_below (by (with_reducible repeat (first | apply Kd.R_alloc | apply Kd.R_drewN | apply Kd.R_drew)); exact HO_6.out) hb)
                                                    have n1_ := Aside0.mk (Kd.R_below (by (with_reducible repeat (first | apply Kd.R_alloc | apply Kd.R_drewN | apply Kd.R_drew)); exact HO_7.out) hb)
                                                    have n2_ := Aside0.mk (below_step (by repeat (first | (with_reducible first | exact HB.out | apply below_alloc | apply pw_below_drewN | apply below_drew1) | exact HB.out)) hb)
                                                    clear HO_6
                                                    clear HO_7
                                                    clear HB
                                                    have HO_6 := n0_
                                                    have HO_7 := n1_
                                                    have HB := n2_
                                                    clear n0_ n1_ n2_
                                                    (try clear hb)
                                                    (try clear hb2)
                                                    (try clear hk)
                                                    (try clear hi)
                                                    refine hK.out _ _ ⟨HS0_, HS1_, HS2_, HS3_⟩ (fun hHeld => ?_)
                                                    clear hK K
                                                    refine norm_ (a' := ?_) ?_ ?_
                                                    rotate_left
                                                    · show Act.put _ (some 140) _ = _
                                                      simp only [Act.put, List.setIfInBounds_toArray, List.set_cons_zero, List.set_cons_succ, i64_w, i32_w]
                                                      rfl
                                                    refine pure_ (i := 14) (N := some 126) (v := ?_) (a' := ?_) #[true, true, true, true, true, true, true, true, true, true, true, true, true, true, true, false, false, false, false, false, false] rfl rfl (any_of HT_.out (by kernel_rfl)) (fun _ _ _ h => h) (Or.inl ⟨by rfl, ?_⟩) ?_ ?_
                                                    rotate_left
                                                    · intro w'
                                                      go_simp
                                                      with_reducible rfl
                                                    rotate_left
                                                    · simp only [Act.put, List.setIfInBounds_toArray, List.set_cons_zero, List.set_cons_succ, i64_w, i32_w]
                                                      rfl
                                                    refine pure_ (i := 15) (N := some 141) (v := ?_) (a' := ?_) #[true, true, true, true, true, true, true, true, true, true, true, true, true, true, true, true, false, false, false, false, false] rfl rfl (any_of HT_.out (by kernel_rfl)) (fun _ _ _ h => h) (Or.inl ⟨by rfl, ?_⟩) ?_ ?_
                                                    rotate_left
                                                    · intro w'
                                                      go_simp
                                                      with_reducible rfl
                                                    rotate_left
                                                    · simp only [Act.put, List.setIfInBounds_toArray, List.set_cons_zero, List.set_cons_succ, i64_w, i32_w]
                                                      rfl
                                                    refine pure_ (i := 16) (N := some 142) (v := ?_) (a' := ?_) #[true, true, true, true, true, true, true, true, true, true, true, true, true, true, true, true, true, false, false, false, false] rfl rfl (any_of HT_.out (by kernel_rfl)) (fun _ _ _ h => h) (Or.inl ⟨by rfl, ?_⟩) ?_ ?_
                                                    rotate_left
                                                    · intro w'
                                                      go_simp
                                                      with_reducible rfl
                                                    rotate_left
                                                    · simp only [Act.put, List.setIfInBounds_toArray, List.set_cons_zero, List.set_cons_succ, i64_w, i32_w]
                                                      rfl
                                                    refine pure_ (i := 17) (N := some 143) (v := ?_) (a' := ?_) #[true, true, true, true, true, true, true, true, true, true, true, true, true, true, true, true, true, true, false, false, false] rfl rfl (any_of HT_.out (by kernel_rfl)) (fun _ _ _ h => h) (Or.inl ⟨by rfl, ?_⟩) ?_ ?_
                                                    rotate_left
                                                    · intro w'
                                                      go_simp
                                                      with_reducible rfl
                                                    rotate_left
                                                    · simp only [Act.put, List.setIfInBounds_toArray, List.set_cons_zero, List.set_cons_succ, i64_w, i32_w]
                                                      rfl
                                                    refine pure_ (i := 18) (N := some 14) (v := ?_) (a' := ?_) #[true, true, true, true, true, true, true, true, true, true, true, true, true, true, true, true, true, true, true, false, false] rfl rfl (any_of HT_.out (by kernel_rfl)) (fun _ _ _ h => h) (Or.inl ⟨by rfl, ?_⟩) ?_ ?_
                                                    rotate_left
                                                    · intro w'
                                                      go_simp
                                                      with_reducible rfl
                                                    rotate_left
                                                    · simp only [Act.put, List.setIfInBounds_toArray, List.set_cons_zero, List.set_cons_succ, i64_w, i32_w]
                                                      rfl
                                                    refine pure_ (i := 19) (N := some 15) (v := ?_) (a' := ?_) #[true, true, true, true, true, true, true, true, true, true, true, true, true, true, true, true, true, true, true, true, false] rfl rfl (any_of HT_.out (by kernel_rfl)) (fun _ _ _ h => h) (Or.inl ⟨by rfl, ?_⟩) ?_ ?_
                                                    rotate_left
                                                    · intro w'
                                                      go_simp
                                                      with_reducible rfl
                                                    rotate_left
                                                    · simp only [Act.put, List.setIfInBounds_toArray, List.set_cons_zero, List.set_cons_succ, i64_w, i32_w]
                                                      rfl
                                                    refine pure_ (i := 20) (N := some 16) (v := ?_) (a' := ?_) #[true, true, true, true, true, true, true, true, true, true, true, true, true, true, true, true, true, true, true, true, true] rfl rfl (any_of HT_.out (by kernel_rfl)) (fun _ _ _ h => h) (Or.inl ⟨by rfl, ?_⟩) ?_ ?_
                                                    rotate_left
                                                    · intro w'
                                                      go_simp
                                                      with_reducible rfl
                                                    rotate_left
                                                    · simp only [Act.put, List.setIfInBounds_toArray, List.set_cons_zero, List.set_cons_succ, i64_w, i32_w]
                                                      rfl
                                                    refine done_ (done_of HT_.out (by kernel_rfl)) ?_
                                                    try go_wp2_with (first | (go_at_call 31; (with_reducible refine (massiflaw04_holds.calls kj45 _ _ t225 t244 t245 true _ ?side1 ?side2 A57.out).mono ?_); (case side1 => repeat (first | exact (Kd.R_reads' HO_6.out).2.2 | (with_reducible refine Kd.C_alloc ?_ _) | (with_reducible refine Kd.C_drewN ?_ _) | (with_reducible refine Kd.C_drew ?_))); (case side2 => exact (Kd.R_reads' HO_6.out).2.1); rintro e w' ⟨rfl, ⟨nd, rfl⟩⟩; have p248 : 0 ≤ (x12_2 : Int) := of_decide_eq_true (by first | (with_reducible assumption) | assumption); have q248 : x12_2 < (t228.length : Int) := of_decide_eq_true (by first | (with_reducible assumption) | assumption); obtain ⟨ad248, e248, hx248_0, hx248_1⟩ := at_T43 (Kd.R_reads' HO_7.out).2.2 x12_2 p248 q248; obtain rfl : ad238 = ad248 := (by injection e248); replace p248 := eq_true p248; replace q248 := eq_true q248) | ((with_reducible refine gate_callee (f := 30) rfl ?_); refine goesL_ (some 162) rfl rfl Try.func30 (by kernel_rfl) rfl #[.agg #[.int .i64 ((rd_T43 t228 x12_2).f0), .int .u64 ((rd_T43 t228 x12_2).f1)]] rfl (by (try simp only [List.map_toArray, List.map_cons, List.map_nil]); first | done | rfl | (simp only [List.length_drop, List.length_take]; rfl)) ?_; (with_reducible refine (massiflaw04_span.calls ((rd_T43 t228 x12_2).f0) ((rd_T43 t228 x12_2).f1) t249 t250 t251 _ A59.out).mono ?_); rintro e w62 ⟨rfl, hb⟩; refine ⟨_, rfl, ?_⟩; have n0_ := Aside0.mk (Kd.R_below (by (with_reducible repeat (first | apply Kd.R_alloc | apply Kd.R_drewN | apply Kd.R_drew)); exact HO_6.out) hb); have n1_ := Aside0.mk (Kd.R_below (by (with_reducible repeat (first | apply Kd.R_alloc | apply Kd.R_drewN | apply Kd.R_drew)); exact HO_7.out) hb); have n2_ := Aside0.mk (below_step (by repeat (first | (with_reducible first | exact HB.out | apply below_alloc | apply pw_below_drewN | apply below_drew1) | exact HB.out)) hb); clear HO_6; clear HO_7; clear HB; have HO_6 := n0_; have HO_7 := n1_; have HB := n2_; clear n0_ n1_ n2_; (try clear hb); (try clear hb2); (try clear hk); (try clear hi)))
                                                    go_roundg kj45
                                                    case measure => have := HJ10.out; have := HK2.out; have := HJ31.out; have := HJ36.out; have := HJ45.out; omega
                                                    case rel => exact ⟨(t250), (wrap64 (x12_2 + 1)), (x13_2), (by first | rfl | (simp; done) | (simp [*]; done)), (by first | rfl | (simp; done) | (simp [*]; done)), (by first | rfl | (simp; done) | (simp [*]; done)), H', ⟨by have := HJ10.out; have := HK2.out; have := HJ31.out; have := HJ36.out; have := HJ45.out; omega⟩, ⟨by (with_reducible repeat (first | apply Kd.R_alloc | apply Kd.R_drewN | apply Kd.R_drew)); exact HO_6.out⟩, ⟨by (with_reducible repeat (first | apply Kd.R_alloc | apply Kd.R_drewN | apply Kd.R_drew)); exact HO_7.out⟩, ⟨by repeat (first | (with_reducible first | exact HB.out | apply below_alloc | apply pw_below_drewN | apply below_drew1) | exact HB.out)⟩⟩
                                                  · replace c58 := Bool.eq_false_iff.mpr c58
                                                    subst c58
                                                    have H1 : (some false) = some r := by rw [if_neg (show ¬ (false = true) by decide)] at H; exact H
                                                    clear H
                                                    have H := H1
                                                    clear H1
                                                    obtain rfl := Option.some.inj H
                                                    try go_wp2
                                                    have n0_ := Aside0.mk (Kd.R_drew HO_6.out)
                                                    have n1_ := Aside0.mk (Kd.R_drew HO_7.out)
                                                    have n2_ := Aside0.mk (below_drew1 HB.out)
                                                    clear HO_6
                                                    clear HO_7
                                                    clear HB
                                                    have HO_6 := n0_
                                                    have HO_7 := n1_
                                                    have HB := n2_
                                                    clear n0_ n1_ n2_
                                                    have p242 : 0 ≤ (x12_2 : Int) := of_decide_eq_true (by first | (with_reducible assumption) | assumption)
                                                    have q242 : x12_2 < (t228.length : Int) := of_decide_eq_true (by first | (with_reducible assumption) | assumption)
                                                    obtain ⟨ad242, e242, hx242_0, hx242_1⟩ := at_T43 (Kd.R_reads' HO_7.out).2.2 x12_2 p242 q242
                                                    obtain rfl : ad238 = ad242 := (by injection e242)
                                                    replace p242 := eq_true p242
                                                    replace q242 := eq_true q242
                                                    have p243 : 0 ≤ (x12_2 : Int) := of_decide_eq_true (by first | (with_reducible assumption) | assumption)
                                                    have q243 : x12_2 < (t228.length : Int) := of_decide_eq_true (by first | (with_reducible assumption) | assumption)
                                                    obtain ⟨ad243, e243, hx243_0, hx243_1⟩ := at_T43 (Kd.R_reads' HO_7.out).2.2 x12_2 p243 q243
                                                    obtain rfl : ad238 = ad243 := (by injection e243)
                                                    replace p243 := eq_true p243
                                                    replace q243 := eq_true q243
                                                    refine start_ (n := 21) (S := fun w' => w'.cell? (ad238.add ((x12_2).toNat * 2)) = some (.int .i64 ((rd_T43 t228 x12_2).f0)) ∧ w'.cell? ⟨(ad238.add ((x12_2).toNat * 2)).block, (ad238.add ((x12_2).toNat * 2)).off + 1, none⟩ = some (.int .u64 ((rd_T43 t228 x12_2).f1)) ∧ w'.cell? (ad238.add ((x12_2).toNat * 2)) = some (.int .i64 ((rd_T43 t228 x12_2).f0)) ∧ w'.cell? ⟨(ad238.add ((x12_2).toNat * 2)).block, (ad238.add ((x12_2).toNat * 2)).off + 1, none⟩ = some (.int .u64 ((rd_T43 t228 x12_2).f1))) (ds := []) #[false, false, false, false, false, false, false, false, false, false, false, false, false, false, false, false, false, false, false, false, false] (by kernel_rfl) rfl rfl ⟨hx242_0, hx242_1, hx243_0, hx243_1⟩ (fun hHeld => ?_); refine with_tabW massiflaw04_CoverLeaves.tab20 massiflaw04_CoverLeaves.bits20 (fun HT_ HW_ => ?_)
                                                    generalize wc.drew = w63 at HO_6 HO_7 HB hx242_0 hx242_1 hx243_0 hx243_1 hHeld ⊢
                                                    refine pure_ (i := 0) (N := some 127) (v := ?_) (a' := ?_) #[true, false, false, false, false, false, false, false, false, false, false, false, false, false, false, false, false, false, false, false, false] rfl rfl (any_of HT_.out (by kernel_rfl)) (fun _ _ _ h => h) (Or.inl ⟨by rfl, ?_⟩) ?_ ?_
                                                    rotate_left
                                                    · intro w'
                                                      go_simp
                                                      with_reducible rfl
                                                    rotate_left
                                                    · simp only [Act.put, List.setIfInBounds_toArray, List.set_cons_zero, List.set_cons_succ, i64_w, i32_w]
                                                      rfl
                                                    refine pure_ (i := 1) (N := some 128) (v := ?_) (a' := ?_) #[true, true, false, false, false, false, false, false, false, false, false, false, false, false, false, false, false, false, false, false, false] rfl rfl (any_of HT_.out (by kernel_rfl)) (fun _ _ _ h => h) (Or.inl ⟨by rfl, ?_⟩) ?_ ?_
                                                    rotate_left
                                                    · intro w'
                                                      go_simp
                                                      with_reducible rfl
                                                    rotate_left
                                                    · simp only [Act.put, List.setIfInBounds_toArray, List.set_cons_zero, List.set_cons_succ, i64_w, i32_w]
                                                      rfl
                                                    refine pure_ (i := 2) (N := some 129) (v := ?_) (a' := ?_) #[true, true, true, false, false, false, false, false, false, false, false, false, false, false, false, false, false, false, false, false, false] rfl rfl (any_of HT_.out (by kernel_rfl)) (fun _ _ _ h => h) (Or.inl ⟨by rfl, ?_⟩) ?_ ?_
                                                    rotate_left
                                                    · intro w'
                                                      go_simp
                                                      with_reducible rfl
                                                    rotate_left
                                                    · simp only [Act.put, List.setIfInBounds_toArray, List.set_cons_zero, List.set_cons_succ, i64_w, i32_w]
                                                      rfl
                                                    refine pure_ (i := 3) (N := some 130) (v := ?_) (a' := ?_) #[true, true, true, true, false, false, false, false, false, false, false, false, false, false, false, false, false, false, false, false, false] rfl rfl (any_of HT_.out (by kernel_rfl)) (fun _ _ _ h => h) (Or.inl ⟨by rfl, ?_⟩) ?_ ?_
                                                    rotate_left
                                                    · intro w'
                                                      go_simp
                                                      with_reducible rfl
                                                    rotate_left
                                                    · simp only [Act.put, List.setIfInBounds_toArray, List.set_cons_zero, List.set_cons_succ, i64_w, i32_w]
                                                      rfl
                                                    refine pure_ (i := 6) (N := some 133) (v := ?_) (a' := ?_) #[true, true, true, true, false, false, true, false, false, false, false, false, false, false, false, false, false, false, false, false, false] rfl rfl (any_of HT_.out (by kernel_rfl)) (fun _ _ _ h => h) (Or.inl ⟨by rfl, ?_⟩) ?_ ?_
                                                    rotate_left
                                                    · intro w'
                                                      go_simp
                                                      with_reducible rfl
                                                    rotate_left
                                                    · simp only [Act.put, List.setIfInBounds_toArray, List.set_cons_zero, List.set_cons_succ, i64_w, i32_w]
                                                      rfl
                                                    refine pure_ (i := 7) (N := some 134) (v := ?_) (a' := ?_) #[true, true, true, true, false, false, true, true, false, false, false, false, false, false, false, false, false, false, false, false, false] rfl rfl (any_of HT_.out (by kernel_rfl)) (fun _ _ _ h => h) (Or.inl ⟨by rfl, ?_⟩) ?_ ?_
                                                    rotate_left
                                                    · intro w'
                                                      go_simp
                                                      with_reducible rfl
                                                    rotate_left
                                                    · simp only [Act.put, List.setIfInBounds_toArray, List.set_cons_zero, List.set_cons_succ, i64_w, i32_w]
                                                      rfl
                                                    refine pure_ (i := 8) (N := some 135) (v := ?_) (a' := ?_) #[true, true, true, true, false, false, true, true, true, false, false, false, false, false, false, false, false, false, false, false, false] rfl rfl (any_of HT_.out (by kernel_rfl)) (fun _ _ _ h => h) (Or.inl ⟨by rfl, ?_⟩) ?_ ?_
                                                    rotate_left
                                                    · intro w'
                                                      go_simp
                                                      with_reducible rfl
                                                    rotate_left
                                                    · simp only [Act.put, List.setIfInBounds_toArray, List.set_cons_zero, List.set_cons_succ, i64_w, i32_w]
                                                      rfl
                                                    refine pure_ (i := 9) (N := some 136) (v := ?_) (a' := ?_) #[true, true, true, true, false, false, true, true, true, true, false, false, false, false, false, false, false, false, false, false, false] rfl rfl (any_of HT_.out (by kernel_rfl)) (fun _ _ _ h => h) (Or.inl ⟨by rfl, ?_⟩) ?_ ?_
                                                    rotate_left
                                                    · intro w'
                                                      go_simp
                                                      with_reducible rfl
                                                    rotate_left
                                                    · simp only [Act.put, List.setIfInBounds_toArray, List.set_cons_zero, List.set_cons_succ, i64_w, i32_w]
                                                      rfl
                                                    refine take_ (i := 4) (N := some 131) (v := ?_) (a' := ?_) #[true, true, true, true, true, false, true, true, true, true, false, false, false, false, false, false, false, false, false, false, false] rfl rfl (take_ofW HT_.out HW_.out (by kernel_rfl)) (fun _ _ _ h => h) (Or.inl ⟨by rfl, ?_⟩) hHeld ?_ ?_
                                                    rotate_left
                                                    · rintro w' ⟨s0, s1, s2, s3⟩
                                                      go_simp
                                                      with_reducible rfl
                                                    rotate_left
                                                    · simp only [Act.put, List.setIfInBounds_toArray, List.set_cons_zero, List.set_cons_succ, i64_w, i32_w]
                                                      rfl
                                                    refine pure_ (i := 5) (N := some 132) (v := ?_) (a' := ?_) #[true, true, true, true, true, true, true, true, true, true, false, false, false, false, false, false, false, false, false, false, false] rfl rfl (any_of HT_.out (by kernel_rfl)) (fun _ _ _ h => h) (Or.inl ⟨by rfl, ?_⟩) ?_ ?_
                                                    rotate_left
                                                    · intro w'
                                                      go_simp
                                                      with_reducible rfl
                                                    rotate_left
                                                    · simp only [Act.put, List.setIfInBounds_toArray, List.set_cons_zero, List.set_cons_succ, i64_w, i32_w]
                                                      rfl
                                                    refine take_ (i := 10) (N := some 137) (v := ?_) (a' := ?_) #[true, true, true, true, true, true, true, true, true, true, true, false, false, false, false, false, false, false, false, false, false] rfl rfl (take_ofW HT_.out HW_.out (by kernel_rfl)) (fun _ _ _ h => h) (Or.inl ⟨by rfl, ?_⟩) hHeld ?_ ?_
                                                    rotate_left
                                                    · rintro w' ⟨s0, s1, s2, s3⟩
                                                      go_simp
                                                      with_reducible rfl
                                                    rotate_left
                                                    · simp only [Act.put, List.setIfInBounds_toArray, List.set_cons_zero, List.set_cons_succ, i64_w, i32_w]
                                                      rfl
                                                    refine pure_ (i := 11) (N := some 138) (v := ?_) (a' := ?_) #[true, true, true, true, true, true, true, true, true, true, true, true, false, false, false, false, false, false, false, false, false] rfl rfl (any_of HT_.out (by kernel_rfl)) (fun _ _ _ h => h) (Or.inl ⟨by rfl, ?_⟩) ?_ ?_
                                                    rotate_left
                                                    · intro w'
                                                      go_simp
                                                      with_reducible rfl
                                                    rotate_left
                                                    · simp only [Act.put, List.setIfInBounds_toArray, List.set_cons_zero, List.set_cons_succ, i64_w, i32_w]
                                                      rfl
                                                    refine pure_ (i := 12) (N := some 139) (v := ?_) (a' := ?_) #[true, true, true, true, true, true, true, true, true, true, true, true, true, false, false, false, false, false, false, false, false] rfl rfl (any_of HT_.out (by kernel_rfl)) (fun _ _ _ h => h) (Or.inl ⟨by rfl, ?_⟩) ?_ ?_
                                                    rotate_left
                                                    · intro w'
                                                      go_simp
                                                      with_reducible rfl
                                                    rotate_left
                                                    · simp only [Act.put, List.setIfInBounds_toArray, List.set_cons_zero, List.set_cons_succ, i64_w, i32_w]
                                                      rfl
                                                    refine one_ (i := 13) (N := some 140) #[true, true, true, true, true, true, true, true, true, true, true, true, true, true, false, false, false, false, false, false, false] rfl rfl (one_of HT_.out (by kernel_rfl)) (by decide) (fun K hK => ?_)
                                                    refine goes_ Try.func30 (by kernel_rfl) rfl #[.agg #[.int .i64 (wrap64 (((rd_T43 t228 x12_2).f0) + 1)), .int .u64 (IntKind.u64.wrap (Int.tdiv ((rd_T43 t228 x12_2).f1) 2))]] (by rfl) rfl rfl (by (try simp only [List.map_toArray, List.map_cons, List.map_nil]); first | done | rfl | (simp only [List.length_drop, List.length_take]; rfl)) ?_
                                                    with_reducible refine (massiflaw04_span.calls (wrap64 (((rd_T43 t228 x12_2).f0) + 1)) (IntKind.u64.wrap (Int.tdiv ((rd_T43 t228 x12_2).f1) 2)) t244 t245 true _ A54.out).mono ?_
                                                    rintro e w64 ⟨rfl, hb⟩
                                                    have HS0_ := (hb.cell (World.block_lt_of_cell? _ _ (hHeld.1))).trans (hHeld.1)
                                                    have HS1_ := (hb.cell (World.block_lt_of_cell? _ _ (hHeld.2.1))).trans (hHeld.2.1)
                                                    have HS2_ := (hb.cell (World.block_lt_of_cell? _ _ (hHeld.2.2.1))).trans (hHeld.2.2.1)
                                                    have HS3_ := (hb.cell (World.block_lt_of_cell? _ _ (hHeld.2.2.2))).trans (hHeld.2.2.2)
                                                    refine ⟨_, rfl, ?_⟩
                                                    have n0_ := Aside0.mk (Kd.R_below (by (with_reducible repeat (first | apply Kd.R_alloc | apply Kd.R_drewN | apply Kd.R_drew)); exact HO_6.out) hb)
                                                    have n1_ := Aside0.mk (Kd.R_below (by (with_reducible repeat (first | apply Kd.R_alloc | apply Kd.R_drewN | apply Kd.R_drew)); exact HO_7.out) hb)
                                                    have n2_ := Aside0.mk (below_step (by repeat (first | (with_reducible first | exact HB.out | apply below_alloc | apply pw_below_drewN | apply below_drew1) | exact HB.out)) hb)
                                                    clear HO_6
                                                    clear HO_7
                                                    clear HB
                                                    have HO_6 := n0_
                                                    have HO_7 := n1_
                                                    have HB := n2_
                                                    clear n0_ n1_ n2_
                                                    (try clear hb)
                                                    (try clear hb2)
                                                    (try clear hk)
                                                    (try clear hi)
                                                    refine hK.out _ _ ⟨HS0_, HS1_, HS2_, HS3_⟩ (fun hHeld => ?_)
                                                    clear hK K
                                                    refine norm_ (a' := ?_) ?_ ?_
                                                    rotate_left
                                                    · show Act.put _ (some 140) _ = _
                                                      simp only [Act.put, List.setIfInBounds_toArray, List.set_cons_zero, List.set_cons_succ, i64_w, i32_w]
                                                      rfl
                                                    refine pure_ (i := 14) (N := some 126) (v := ?_) (a' := ?_) #[true, true, true, true, true, true, true, true, true, true, true, true, true, true, true, false, false, false, false, false, false] rfl rfl (any_of HT_.out (by kernel_rfl)) (fun _ _ _ h => h) (Or.inl ⟨by rfl, ?_⟩) ?_ ?_
                                                    rotate_left
                                                    · intro w'
                                                      go_simp
                                                      with_reducible rfl
                                                    rotate_left
                                                    · simp only [Act.put, List.setIfInBounds_toArray, List.set_cons_zero, List.set_cons_succ, i64_w, i32_w]
                                                      rfl
                                                    refine pure_ (i := 15) (N := some 141) (v := ?_) (a' := ?_) #[true, true, true, true, true, true, true, true, true, true, true, true, true, true, true, true, false, false, false, false, false] rfl rfl (any_of HT_.out (by kernel_rfl)) (fun _ _ _ h => h) (Or.inl ⟨by rfl, ?_⟩) ?_ ?_
                                                    rotate_left
                                                    · intro w'
                                                      go_simp
                                                      with_reducible rfl
                                                    rotate_left
                                                    · simp only [Act.put, List.setIfInBounds_toArray, List.set_cons_zero, List.set_cons_succ, i64_w, i32_w]
                                                      rfl
                                                    refine pure_ (i := 16) (N := some 142) (v := ?_) (a' := ?_) #[true, true, true, true, true, true, true, true, true, true, true, true, true, true, true, true, true, false, false, false, false] rfl rfl (any_of HT_.out (by kernel_rfl)) (fun _ _ _ h => h) (Or.inl ⟨by rfl, ?_⟩) ?_ ?_
                                                    rotate_left
                                                    · intro w'
                                                      go_simp
                                                      with_reducible rfl
                                                    rotate_left
                                                    · simp only [Act.put, List.setIfInBounds_toArray, List.set_cons_zero, List.set_cons_succ, i64_w, i32_w]
                                                      rfl
                                                    refine pure_ (i := 17) (N := some 143) (v := ?_) (a' := ?_) #[true, true, true, true, true, true, true, true, true, true, true, true, true, true, true, true, true, true, false, false, false] rfl rfl (any_of HT_.out (by kernel_rfl)) (fun _ _ _ h => h) (Or.inl ⟨by rfl, ?_⟩) ?_ ?_
                                                    rotate_left
                                                    · intro w'
                                                      go_simp
                                                      with_reducible rfl
                                                    rotate_left
                                                    · simp only [Act.put, List.setIfInBounds_toArray, List.set_cons_zero, List.set_cons_succ, i64_w, i32_w]
                                                      rfl
                                                    refine pure_ (i := 18) (N := some 14) (v := ?_) (a' := ?_) #[true, true, true, true, true, true, true, true, true, true, true, true, true, true, true, true, true, true, true, false, false] rfl rfl (any_of HT_.out (by kernel_rfl)) (fun _ _ _ h => h) (Or.inl ⟨by rfl, ?_⟩) ?_ ?_
                                                    rotate_left
                                                    · intro w'
                                                      go_simp
                                                      with_reducible rfl
                                                    rotate_left
                                                    · simp only [Act.put, List.setIfInBounds_toArray, List.set_cons_zero, List.set_cons_succ, i64_w, i32_w]
                                                      rfl
                                                    refine pure_ (i := 19) (N := some 15) (v := ?_) (a' := ?_) #[true, true, true, true, true, true, true, true, true, true, true, true, true, true, true, true, true, true, true, true, false] rfl rfl (any_of HT_.out (by kernel_rfl)) (fun _ _ _ h => h) (Or.inl ⟨by rfl, ?_⟩) ?_ ?_
                                                    rotate_left
                                                    · intro w'
                                                      go_simp
                                                      with_reducible rfl
                                                    rotate_left
                                                    · simp only [Act.put, List.setIfInBounds_toArray, List.set_cons_zero, List.set_cons_succ, i64_w, i32_w]
                                                      rfl
                                                    refine pure_ (i := 20) (N := some 16) (v := ?_) (a' := ?_) #[true, true, true, true, true, true, true, true, true, true, true, true, true, true, true, true, true, true, true, true, true] rfl rfl (any_of HT_.out (by kernel_rfl)) (fun _ _ _ h => h) (Or.inl ⟨by rfl, ?_⟩) ?_ ?_
                                                    rotate_left
                                                    · intro w'
                                                      go_simp
                                                      with_reducible rfl
                                                    rotate_left
                                                    · simp only [Act.put, List.setIfInBounds_toArray, List.set_cons_zero, List.set_cons_succ, i64_w, i32_w]
                                                      rfl
                                                    refine done_ (done_of HT_.out (by kernel_rfl)) ?_
                                                    try go_wp2_with (first | (go_at_call 31; (with_reducible refine (massiflaw04_holds.calls kj45 _ _ t225 t244 t245 false _ ?side1 ?side2 A57.out).mono ?_); (case side1 => repeat (first | exact (Kd.R_reads' HO_6.out).2.2 | (with_reducible refine Kd.C_alloc ?_ _) | (with_reducible refine Kd.C_drewN ?_ _) | (with_reducible refine Kd.C_drew ?_))); (case side2 => exact (Kd.R_reads' HO_6.out).2.1); rintro e w' ⟨rfl, ⟨nd, rfl⟩⟩))
                                                    go_ret
                                                    exact ⟨by first | rfl | (simp [errW_none, errW_some] <;> rfl) | (simp [*, errW_none, errW_some] <;> rfl), by repeat (first | (with_reducible first | exact HB.out | apply below_alloc | apply pw_below_drewN | apply below_drew1) | exact HB.out)⟩
                                              · as_aux_lemma =>
                                                  rw [if_neg c56] at H
                                                  have c56b0 : decide (t245 ≤ (IntKind.u64.wrap (t215 + 1))) = false := decide_eq_false c56
                                                  clear c56
                                                  replace H := Option.bind_eq_some_iff.mp H
                                                  obtain ⟨⟨t253, t254, t255⟩, A650, H⟩ := H
                                                  replace H : (massiflaw04_CoverLeaves.l0 kj45 (IntKind.u64.wrap (t215 + 1)) t225 t228 t254 (wrap64 (x12_2 + 1)) x13_2) = some r := H
                                                  have A65 := Aside0.mk A650
                                                  clear A650
                                                  have H' := Aside0.mk H
                                                  clear H
                                                  try go_wp2
                                                  have n0_ := Aside0.mk (Kd.R_drew HO_6.out)
                                                  have n1_ := Aside0.mk (Kd.R_drew HO_7.out)
                                                  have n2_ := Aside0.mk (below_drew1 HB.out)
                                                  clear HO_6
                                                  clear HO_7
                                                  clear HB
                                                  have HO_6 := n0_
                                                  have HO_7 := n1_
                                                  have HB := n2_
                                                  clear n0_ n1_ n2_
                                                  have p242 : 0 ≤ (x12_2 : Int) := of_decide_eq_true (by first | (with_reducible assumption) | assumption)
                                                  have q242 : x12_2 < (t228.length : Int) := of_decide_eq_true (by first | (with_reducible assumption) | assumption)
                                                  obtain ⟨ad242, e242, hx242_0, hx242_1⟩ := at_T43 (Kd.R_reads' HO_7.out).2.2 x12_2 p242 q242
                                                  obtain rfl : ad238 = ad242 := (by injection e242)
                                                  replace p242 := eq_true p242
                                                  replace q242 := eq_true q242
                                                  have p243 : 0 ≤ (x12_2 : Int) := of_decide_eq_true (by first | (with_reducible assumption) | assumption)
                                                  have q243 : x12_2 < (t228.length : Int) := of_decide_eq_true (by first | (with_reducible assumption) | assumption)
                                                  obtain ⟨ad243, e243, hx243_0, hx243_1⟩ := at_T43 (Kd.R_reads' HO_7.out).2.2 x12_2 p243 q243
                                                  obtain rfl : ad238 = ad243 := (by injection e243)
                                                  replace p243 := eq_true p243
                                                  replace q243 := eq_true q243
                                                  refine start_ (n := 21) (S := fun w' => w'.cell? (ad238.add ((x12_2).toNat * 2)) = some (.int .i64 ((rd_T43 t228 x12_2).f0)) ∧ w'.cell? ⟨(ad238.add ((x12_2).toNat * 2)).block, (ad238.add ((x12_2).toNat * 2)).off + 1, none⟩ = some (.int .u64 ((rd_T43 t228 x12_2).f1)) ∧ w'.cell? (ad238.add ((x12_2).toNat * 2)) = some (.int .i64 ((rd_T43 t228 x12_2).f0)) ∧ w'.cell? ⟨(ad238.add ((x12_2).toNat * 2)).block, (ad238.add ((x12_2).toNat * 2)).off + 1, none⟩ = some (.int .u64 ((rd_T43 t228 x12_2).f1))) (ds := []) #[false, false, false, false, false, false, false, false, false, false, false, false, false, false, false, false, false, false, false, false, false] (by kernel_rfl) rfl rfl ⟨hx242_0, hx242_1, hx243_0, hx243_1⟩ (fun hHeld => ?_); refine with_tabW massiflaw04_CoverLeaves.tab20 massiflaw04_CoverLeaves.bits20 (fun HT_ HW_ => ?_)
                                                  generalize wc.drew = w66 at HO_6 HO_7 HB hx242_0 hx242_1 hx243_0 hx243_1 hHeld ⊢
                                                  refine pure_ (i := 0) (N := some 127) (v := ?_) (a' := ?_) #[true, false, false, false, false, false, false, false, false, false, false, false, false, false, false, false, false, false, false, false, false] rfl rfl (any_of HT_.out (by kernel_rfl)) (fun _ _ _ h => h) (Or.inl ⟨by rfl, ?_⟩) ?_ ?_
                                                  rotate_left
                                                  · intro w'
                                                    go_simp
                                                    with_reducible rfl
                                                  rotate_left
                                                  · simp only [Act.put, List.setIfInBounds_toArray, List.set_cons_zero, List.set_cons_succ, i64_w, i32_w]
                                                    rfl
                                                  refine pure_ (i := 1) (N := some 128) (v := ?_) (a' := ?_) #[true, true, false, false, false, false, false, false, false, false, false, false, false, false, false, false, false, false, false, false, false] rfl rfl (any_of HT_.out (by kernel_rfl)) (fun _ _ _ h => h) (Or.inl ⟨by rfl, ?_⟩) ?_ ?_
                                                  rotate_left
                                                  · intro w'
                                                    go_simp
                                                    with_reducible rfl
                                                  rotate_left
                                                  · simp only [Act.put, List.setIfInBounds_toArray, List.set_cons_zero, List.set_cons_succ, i64_w, i32_w]
                                                    rfl
                                                  refine pure_ (i := 2) (N := some 129) (v := ?_) (a' := ?_) #[true, true, true, false, false, false, false, false, false, false, false, false, false, false, false, false, false, false, false, false, false] rfl rfl (any_of HT_.out (by kernel_rfl)) (fun _ _ _ h => h) (Or.inl ⟨by rfl, ?_⟩) ?_ ?_
                                                  rotate_left
                                                  · intro w'
                                                    go_simp
                                                    with_reducible rfl
                                                  rotate_left
                                                  · simp only [Act.put, List.setIfInBounds_toArray, List.set_cons_zero, List.set_cons_succ, i64_w, i32_w]
                                                    rfl
                                                  refine pure_ (i := 3) (N := some 130) (v := ?_) (a' := ?_) #[true, true, true, true, false, false, false, false, false, false, false, false, false, false, false, false, false, false, false, false, false] rfl rfl (any_of HT_.out (by kernel_rfl)) (fun _ _ _ h => h) (Or.inl ⟨by rfl, ?_⟩) ?_ ?_
                                                  rotate_left
                                                  · intro w'
                                                    go_simp
                                                    with_reducible rfl
                                                  rotate_left
                                                  · simp only [Act.put, List.setIfInBounds_toArray, List.set_cons_zero, List.set_cons_succ, i64_w, i32_w]
                                                    rfl
                                                  refine pure_ (i := 6) (N := some 133) (v := ?_) (a' := ?_) #[true, true, true, true, false, false, true, false, false, false, false, false, false, false, false, false, false, false, false, false, false] rfl rfl (any_of HT_.out (by kernel_rfl)) (fun _ _ _ h => h) (Or.inl ⟨by rfl, ?_⟩) ?_ ?_
                                                  rotate_left
                                                  · intro w'
                                                    go_simp
                                                    with_reducible rfl
                                                  rotate_left
                                                  · simp only [Act.put, List.setIfInBounds_toArray, List.set_cons_zero, List.set_cons_succ, i64_w, i32_w]
                                                    rfl
                                                  refine pure_ (i := 7) (N := some 134) (v := ?_) (a' := ?_) #[true, true, true, true, false, false, true, true, false, false, false, false, false, false, false, false, false, false, false, false, false] rfl rfl (any_of HT_.out (by kernel_rfl)) (fun _ _ _ h => h) (Or.inl ⟨by rfl, ?_⟩) ?_ ?_
                                                  rotate_left
                                                  · intro w'
                                                    go_simp
                                                    with_reducible rfl
                                                  rotate_left
                                                  · simp only [Act.put, List.setIfInBounds_toArray, List.set_cons_zero, List.set_cons_succ, i64_w, i32_w]
                                                    rfl
                                                  refine pure_ (i := 8) (N := some 135) (v := ?_) (a' := ?_) #[true, true, true, true, false, false, true, true, true, false, false, false, false, false, false, false, false, false, false, false, false] rfl rfl (any_of HT_.out (by kernel_rfl)) (fun _ _ _ h => h) (Or.inl ⟨by rfl, ?_⟩) ?_ ?_
                                                  rotate_left
                                                  · intro w'
                                                    go_simp
                                                    with_reducible rfl
                                                  rotate_left
                                                  · simp only [Act.put, List.setIfInBounds_toArray, List.set_cons_zero, List.set_cons_succ, i64_w, i32_w]
                                                    rfl
                                                  refine pure_ (i := 9) (N := some 136) (v := ?_) (a' := ?_) #[true, true, true, true, false, false, true, true, true, true, false, false, false, false, false, false, false, false, false, false, false] rfl rfl (any_of HT_.out (by kernel_rfl)) (fun _ _ _ h => h) (Or.inl ⟨by rfl, ?_⟩) ?_ ?_
                                                  rotate_left
                                                  · intro w'
                                                    go_simp
                                                    with_reducible rfl
                                                  rotate_left
                                                  · simp only [Act.put, List.setIfInBounds_toArray, List.set_cons_zero, List.set_cons_succ, i64_w, i32_w]
                                                    rfl
                                                  refine take_ (i := 4) (N := some 131) (v := ?_) (a' := ?_) #[true, true, true, true, true, false, true, true, true, true, false, false, false, false, false, false, false, false, false, false, false] rfl rfl (take_ofW HT_.out HW_.out (by kernel_rfl)) (fun _ _ _ h => h) (Or.inl ⟨by rfl, ?_⟩) hHeld ?_ ?_
                                                  rotate_left
                                                  · rintro w' ⟨s0, s1, s2, s3⟩
                                                    go_simp
                                                    with_reducible rfl
                                                  rotate_left
                                                  · simp only [Act.put, List.setIfInBounds_toArray, List.set_cons_zero, List.set_cons_succ, i64_w, i32_w]
                                                    rfl
                                                  refine pure_ (i := 5) (N := some 132) (v := ?_) (a' := ?_) #[true, true, true, true, true, true, true, true, true, true, false, false, false, false, false, false, false, false, false, false, false] rfl rfl (any_of HT_.out (by kernel_rfl)) (fun _ _ _ h => h) (Or.inl ⟨by rfl, ?_⟩) ?_ ?_
                                                  rotate_left
                                                  · intro w'
                                                    go_simp
                                                    with_reducible rfl
                                                  rotate_left
                                                  · simp only [Act.put, List.setIfInBounds_toArray, List.set_cons_zero, List.set_cons_succ, i64_w, i32_w]
                                                    rfl
                                                  refine take_ (i := 10) (N := some 137) (v := ?_) (a' := ?_) #[true, true, true, true, true, true, true, true, true, true, true, false, false, false, false, false, false, false, false, false, false] rfl rfl (take_ofW HT_.out HW_.out (by kernel_rfl)) (fun _ _ _ h => h) (Or.inl ⟨by rfl, ?_⟩) hHeld ?_ ?_
                                                  rotate_left
                                                  · rintro w' ⟨s0, s1, s2, s3⟩
                                                    go_simp
                                                    with_reducible rfl
                                                  rotate_left
                                                  · simp only [Act.put, List.setIfInBounds_toArray, List.set_cons_zero, List.set_cons_succ, i64_w, i32_w]
                                                    rfl
                                                  refine pure_ (i := 11) (N := some 138) (v := ?_) (a' := ?_) #[true, true, true, true, true, true, true, true, true, true, true, true, false, false, false, false, false, false, false, false, false] rfl rfl (any_of HT_.out (by kernel_rfl)) (fun _ _ _ h => h) (Or.inl ⟨by rfl, ?_⟩) ?_ ?_
                                                  rotate_left
                                                  · intro w'
                                                    go_simp
                                                    with_reducible rfl
                                                  rotate_left
                                                  · simp only [Act.put, List.setIfInBounds_toArray, List.set_cons_zero, List.set_cons_succ, i64_w, i32_w]
                                                    rfl
                                                  refine pure_ (i := 12) (N := some 139) (v := ?_) (a' := ?_) #[true, true, true, true, true, true, true, true, true, true, true, true, true, false, false, false, false, false, false, false, false] rfl rfl (any_of HT_.out (by kernel_rfl)) (fun _ _ _ h => h) (Or.inl ⟨by rfl, ?_⟩) ?_ ?_
                                                  rotate_left
                                                  · intro w'
                                                    go_simp
                                                    with_reducible rfl
                                                  rotate_left
                                                  · simp only [Act.put, List.setIfInBounds_toArray, List.set_cons_zero, List.set_cons_succ, i64_w, i32_w]
                                                    rfl
                                                  refine one_ (i := 13) (N := some 140) #[true, true, true, true, true, true, true, true, true, true, true, true, true, true, false, false, false, false, false, false, false] rfl rfl (one_of HT_.out (by kernel_rfl)) (by decide) (fun K hK => ?_)
                                                  refine goes_ Try.func30 (by kernel_rfl) rfl #[.agg #[.int .i64 (wrap64 (((rd_T43 t228 x12_2).f0) + 1)), .int .u64 (IntKind.u64.wrap (Int.tdiv ((rd_T43 t228 x12_2).f1) 2))]] (by rfl) rfl rfl (by (try simp only [List.map_toArray, List.map_cons, List.map_nil]); first | done | rfl | (simp only [List.length_drop, List.length_take]; rfl)) ?_
                                                  with_reducible refine (massiflaw04_span.calls (wrap64 (((rd_T43 t228 x12_2).f0) + 1)) (IntKind.u64.wrap (Int.tdiv ((rd_T43 t228 x12_2).f1) 2)) t244 t245 true _ A54.out).mono ?_
                                                  rintro e w67 ⟨rfl, hb⟩
                                                  have HS0_ := (hb.cell (World.block_lt_of_cell? _ _ (hHeld.1))).trans (hHeld.1)
                                                  have HS1_ := (hb.cell (World.block_lt_of_cell? _ _ (hHeld.2.1))).trans (hHeld.2.1)
                                                  have HS2_ := (hb.cell (World.block_lt_of_cell? _ _ (hHeld.2.2.1))).trans (hHeld.2.2.1)
                                                  have HS3_ := (hb.cell (World.block_lt_of_cell? _ _ (hHeld.2.2.2))).trans (hHeld.2.2.2)
                                                  refine ⟨_, rfl, ?_⟩
                                                  have n0_ := Aside0.mk (Kd.R_below (by (with_reducible repeat (first | apply Kd.R_alloc | apply Kd.R_drewN | apply Kd.R_drew)); exact HO_6.out) hb)
                                                  have n1_ := Aside0.mk (Kd.R_below (by (with_reducible repeat (first | apply Kd.R_alloc | apply Kd.R_drewN | apply Kd.R_drew)); exact HO_7.out) hb)
                                                  have n2_ := Aside0.mk (below_step (by repeat (first | (with_reducible first | exact HB.out | apply below_alloc | apply pw_below_drewN | apply below_drew1) | exact HB.out)) hb)
                                                  clear HO_6
                                                  clear HO_7
                                                  clear HB
                                                  have HO_6 := n0_
                                                  have HO_7 := n1_
                                                  have HB := n2_
                                                  clear n0_ n1_ n2_
                                                  (try clear hb)
                                                  (try clear hb2)
                                                  (try clear hk)
                                                  (try clear hi)
                                                  refine hK.out _ _ ⟨HS0_, HS1_, HS2_, HS3_⟩ (fun hHeld => ?_)
                                                  clear hK K
                                                  refine norm_ (a' := ?_) ?_ ?_
                                                  rotate_left
                                                  · show Act.put _ (some 140) _ = _
                                                    simp only [Act.put, List.setIfInBounds_toArray, List.set_cons_zero, List.set_cons_succ, i64_w, i32_w]
                                                    rfl
                                                  refine pure_ (i := 14) (N := some 126) (v := ?_) (a' := ?_) #[true, true, true, true, true, true, true, true, true, true, true, true, true, true, true, false, false, false, false, false, false] rfl rfl (any_of HT_.out (by kernel_rfl)) (fun _ _ _ h => h) (Or.inl ⟨by rfl, ?_⟩) ?_ ?_
                                                  rotate_left
                                                  · intro w'
                                                    go_simp
                                                    with_reducible rfl
                                                  rotate_left
                                                  · simp only [Act.put, List.setIfInBounds_toArray, List.set_cons_zero, List.set_cons_succ, i64_w, i32_w]
                                                    rfl
                                                  refine pure_ (i := 15) (N := some 141) (v := ?_) (a' := ?_) #[true, true, true, true, true, true, true, true, true, true, true, true, true, true, true, true, false, false, false, false, false] rfl rfl (any_of HT_.out (by kernel_rfl)) (fun _ _ _ h => h) (Or.inl ⟨by rfl, ?_⟩) ?_ ?_
                                                  rotate_left
                                                  · intro w'
                                                    go_simp
                                                    with_reducible rfl
                                                  rotate_left
                                                  · simp only [Act.put, List.setIfInBounds_toArray, List.set_cons_zero, List.set_cons_succ, i64_w, i32_w]
                                                    rfl
                                                  refine pure_ (i := 16) (N := some 142) (v := ?_) (a' := ?_) #[true, true, true, true, true, true, true, true, true, true, true, true, true, true, true, true, true, false, false, false, false] rfl rfl (any_of HT_.out (by kernel_rfl)) (fun _ _ _ h => h) (Or.inl ⟨by rfl, ?_⟩) ?_ ?_
                                                  rotate_left
                                                  · intro w'
                                                    go_simp
                                                    with_reducible rfl
                                                  rotate_left
                                                  · simp only [Act.put, List.setIfInBounds_toArray, List.set_cons_zero, List.set_cons_succ, i64_w, i32_w]
                                                    rfl
                                                  refine pure_ (i := 17) (N := some 143) (v := ?_) (a' := ?_) #[true, true, true, true, true, true, true, true, true, true, true, true, true, true, true, true, true, true, false, false, false] rfl rfl (any_of HT_.out (by kernel_rfl)) (fun _ _ _ h => h) (Or.inl ⟨by rfl, ?_⟩) ?_ ?_
                                                  rotate_left
                                                  · intro w'
                                                    go_simp
                                                    with_reducible rfl
                                                  rotate_left
                                                  · simp only [Act.put, List.setIfInBounds_toArray, List.set_cons_zero, List.set_cons_succ, i64_w, i32_w]
                                                    rfl
                                                  refine pure_ (i := 18) (N := some 14) (v := ?_) (a' := ?_) #[true, true, true, true, true, true, true, true, true, true, true, true, true, true, true, true, true, true, true, false, false] rfl rfl (any_of HT_.out (by kernel_rfl)) (fun _ _ _ h => h) (Or.inl ⟨by rfl, ?_⟩) ?_ ?_
                                                  rotate_left
                                                  · intro w'
                                                    go_simp
                                                    with_reducible rfl
                                                  rotate_left
                                                  · simp only [Act.put, List.setIfInBounds_toArray, List.set_cons_zero, List.set_cons_succ, i64_w, i32_w]
                                                    rfl
                                                  refine pure_ (i := 19) (N := some 15) (v := ?_) (a' := ?_) #[true, true, true, true, true, true, true, true, true, true, true, true, true, true, true, true, true, true, true, true, false] rfl rfl (any_of HT_.out (by kernel_rfl)) (fun _ _ _ h => h) (Or.inl ⟨by rfl, ?_⟩) ?_ ?_
                                                  rotate_left
                                                  · intro w'
                                                    go_simp
                                                    with_reducible rfl
                                                  rotate_left
                                                  · simp only [Act.put, List.setIfInBounds_toArray, List.set_cons_zero, List.set_cons_succ, i64_w, i32_w]
                                                    rfl
                                                  refine pure_ (i := 20) (N := some 16) (v := ?_) (a' := ?_) #[true, true, true, true, true, true, true, true, true, true, true, true, true, true, true, true, true, true, true, true, true] rfl rfl (any_of HT_.out (by kernel_rfl)) (fun _ _ _ h => h) (Or.inl ⟨by rfl, ?_⟩) ?_ ?_
                                                  rotate_left
                                                  · intro w'
                                                    go_simp
                                                    with_reducible rfl
                                                  rotate_left
                                                  · simp only [Act.put, List.setIfInBounds_toArray, List.set_cons_zero, List.set_cons_succ, i64_w, i32_w]
                                                    rfl
                                                  refine done_ (done_of HT_.out (by kernel_rfl)) ?_
                                                  have p252 : 0 ≤ (x12_2 : Int) := of_decide_eq_true (by first | (with_reducible assumption) | assumption)
                                                  have q252 : x12_2 < (t228.length : Int) := of_decide_eq_true (by first | (with_reducible assumption) | assumption)
                                                  obtain ⟨ad252, e252, hx252_0, hx252_1⟩ := at_T43 (Kd.R_reads' HO_7.out).2.2 x12_2 p252 q252
                                                  obtain rfl : ad238 = ad252 := (by injection e252)
                                                  replace p252 := eq_true p252
                                                  replace q252 := eq_true q252
                                                  try go_wp2_with (first | ((with_reducible refine gate_callee (f := 30) rfl ?_); refine goesL_ (some 162) rfl rfl Try.func30 (by kernel_rfl) rfl #[.agg #[.int .i64 ((rd_T43 t228 x12_2).f0), .int .u64 ((rd_T43 t228 x12_2).f1)]] rfl (by (try simp only [List.map_toArray, List.map_cons, List.map_nil]); first | done | rfl | (simp only [List.length_drop, List.length_take]; rfl)) ?_; (with_reducible refine (massiflaw04_span.calls ((rd_T43 t228 x12_2).f0) ((rd_T43 t228 x12_2).f1) t253 t254 t255 _ A65.out).mono ?_); rintro e w68 ⟨rfl, hb⟩; refine ⟨_, rfl, ?_⟩; have n0_ := Aside0.mk (Kd.R_below (by (with_reducible repeat (first | apply Kd.R_alloc | apply Kd.R_drewN | apply Kd.R_drew)); exact HO_6.out) hb); have n1_ := Aside0.mk (Kd.R_below (by (with_reducible repeat (first | apply Kd.R_alloc | apply Kd.R_drewN | apply Kd.R_drew)); exact HO_7.out) hb); have n2_ := Aside0.mk (below_step (by repeat (first | (with_reducible first | exact HB.out | apply below_alloc | apply pw_below_drewN | apply below_drew1) | exact HB.out)) hb); clear HO_6; clear HO_7; clear HB; have HO_6 := n0_; have HO_7 := n1_; have HB := n2_; clear n0_ n1_ n2_; (try clear hb); (try clear hb2); (try clear hk); (try clear hi)))
                                                  go_roundg kj45
                                                  case measure => have := HJ10.out; have := HK2.out; have := HJ31.out; have := HJ36.out; have := HJ45.out; omega
                                                  case rel => exact ⟨(t254), (wrap64 (x12_2 + 1)), (x13_2), (by first | rfl | (simp; done) | (simp [*]; done)), (by first | rfl | (simp; done) | (simp [*]; done)), (by first | rfl | (simp; done) | (simp [*]; done)), H', ⟨by have := HJ10.out; have := HK2.out; have := HJ31.out; have := HJ36.out; have := HJ45.out; omega⟩, ⟨by (with_reducible repeat (first | apply Kd.R_alloc | apply Kd.R_drewN | apply Kd.R_drew)); exact HO_6.out⟩, ⟨by (with_reducible repeat (first | apply Kd.R_alloc | apply Kd.R_drewN | apply Kd.R_drew)); exact HO_7.out⟩, ⟨by repeat (first | (with_reducible first | exact HB.out | apply below_alloc | apply pw_below_drewN | apply below_drew1) | exact HB.out)⟩⟩
                                            · replace c55 := Bool.eq_false_iff.mpr c55
                                              subst c55
                                              have H1 : ((massiflaw04_span.f ((rd_T43 t228 x12_2).f0) ((rd_T43 t228 x12_2).f1)).bind fun bt257 => (massiflaw04_CoverLeaves.l0 kj45 (IntKind.u64.wrap (t215 + 1)) t225 t228 bt257.2.1 (wrap64 (x12_2 + 1)) x13_2)) = some r := by rw [if_neg (show ¬ (false = true) by decide)] at H; exact H
                                              clear H
                                              have H := H1
                                              clear H1
                                              replace H := Option.bind_eq_some_iff.mp H
                                              obtain ⟨⟨t257, t258, t259⟩, A690, H⟩ := H
                                              replace H : (massiflaw04_CoverLeaves.l0 kj45 (IntKind.u64.wrap (t215 + 1)) t225 t228 t258 (wrap64 (x12_2 + 1)) x13_2) = some r := H
                                              have A69 := Aside0.mk A690
                                              clear A690
                                              have H' := Aside0.mk H
                                              clear H
                                              try go_wp2
                                              have n0_ := Aside0.mk (Kd.R_drew HO_6.out)
                                              have n1_ := Aside0.mk (Kd.R_drew HO_7.out)
                                              have n2_ := Aside0.mk (below_drew1 HB.out)
                                              clear HO_6
                                              clear HO_7
                                              clear HB
                                              have HO_6 := n0_
                                              have HO_7 := n1_
                                              have HB := n2_
                                              clear n0_ n1_ n2_
                                              have p242 : 0 ≤ (x12_2 : Int) := of_decide_eq_true (by first | (with_reducible assumption) | assumption)
                                              have q242 : x12_2 < (t228.length : Int) := of_decide_eq_true (by first | (with_reducible assumption) | assumption)
                                              obtain ⟨ad242, e242, hx242_0, hx242_1⟩ := at_T43 (Kd.R_reads' HO_7.out).2.2 x12_2 p242 q242
                                              obtain rfl : ad238 = ad242 := (by injection e242)
                                              replace p242 := eq_true p242
                                              replace q242 := eq_true q242
                                              have p243 : 0 ≤ (x12_2 : Int) := of_decide_eq_true (by first | (with_reducible assumption) | assumption)
                                              have q243 : x12_2 < (t228.length : Int) := of_decide_eq_true (by first | (with_reducible assumption) | assumption)
                                              obtain ⟨ad243, e243, hx243_0, hx243_1⟩ := at_T43 (Kd.R_reads' HO_7.out).2.2 x12_2 p243 q243
                                              obtain rfl : ad238 = ad243 := (by injection e243)
                                              replace p243 := eq_true p243
                                              replace q243 := eq_true q243
                                              refine start_ (n := 21) (S := fun w' => w'.cell? (ad238.add ((x12_2).toNat * 2)) = some (.int .i64 ((rd_T43 t228 x12_2).f0)) ∧ w'.cell? ⟨(ad238.add ((x12_2).toNat * 2)).block, (ad238.add ((x12_2).toNat * 2)).off + 1, none⟩ = some (.int .u64 ((rd_T43 t228 x12_2).f1)) ∧ w'.cell? (ad238.add ((x12_2).toNat * 2)) = some (.int .i64 ((rd_T43 t228 x12_2).f0)) ∧ w'.cell? ⟨(ad238.add ((x12_2).toNat * 2)).block, (ad238.add ((x12_2).toNat * 2)).off + 1, none⟩ = some (.int .u64 ((rd_T43 t228 x12_2).f1))) (ds := []) #[false, false, false, false, false, false, false, false, false, false, false, false, false, false, false, false, false, false, false, false, false] (by kernel_rfl) rfl rfl ⟨hx242_0, hx242_1, hx243_0, hx243_1⟩ (fun hHeld => ?_); refine with_tabW massiflaw04_CoverLeaves.tab20 massiflaw04_CoverLeaves.bits20 (fun HT_ HW_ => ?_)
                                              generalize wc.drew = w70 at HO_6 HO_7 HB hx242_0 hx242_1 hx243_0 hx243_1 hHeld ⊢
                                              refine pure_ (i := 0) (N := some 127) (v := ?_) (a' := ?_) #[true, false, false, false, false, false, false, false, false, false, false, false, false, false, false, false, false, false, false, false, false] rfl rfl (any_of HT_.out (by kernel_rfl)) (fun _ _ _ h => h) (Or.inl ⟨by rfl, ?_⟩) ?_ ?_
                                              rotate_left
                                              · intro w'
                                                go_simp
                                                with_reducible rfl
                                              rotate_left
                                              · simp only [Act.put, List.setIfInBounds_toArray, List.set_cons_zero, List.set_cons_succ, i64_w, i32_w]
                                                rfl
                                              refine pure_ (i := 1) (N := some 128) (v := ?_) (a' := ?_) #[true, true, false, false, false, false, false, false, false, false, false, false, false, false, false, false, false, false, false, false, false] rfl rfl (any_of HT_.out (by kernel_rfl)) (fun _ _ _ h => h) (Or.inl ⟨by rfl, ?_⟩) ?_ ?_
                                              rotate_left
                                              · intro w'
                                                go_simp
                                                with_reducible rfl
                                              rotate_left
                                              · simp only [Act.put, List.setIfInBounds_toArray, List.set_cons_zero, List.set_cons_succ, i64_w, i32_w]
                                                rfl
                                              refine pure_ (i := 2) (N := some 129) (v := ?_) (a' := ?_) #[true, true, true, false, false, false, false, false, false, false, false, false, false, false, false, false, false, false, false, false, false] rfl rfl (any_of HT_.out (by kernel_rfl)) (fun _ _ _ h => h) (Or.inl ⟨by rfl, ?_⟩) ?_ ?_
                                              rotate_left
                                              · intro w'
                                                go_simp
                                                with_reducible rfl
                                              rotate_left
                                              · simp only [Act.put, List.setIfInBounds_toArray, List.set_cons_zero, List.set_cons_succ, i64_w, i32_w]
                                                rfl
                                              refine pure_ (i := 3) (N := some 130) (v := ?_) (a' := ?_) #[true, true, true, true, false, false, false, false, false, false, false, false, false, false, false, false, false, false, false, false, false] rfl rfl (any_of HT_.out (by kernel_rfl)) (fun _ _ _ h => h) (Or.inl ⟨by rfl, ?_⟩) ?_ ?_
                                              rotate_left
                                              · intro w'
                                                go_simp
                                                with_reducible rfl
                                              rotate_left
                                              · simp only [Act.put, List.setIfInBounds_toArray, List.set_cons_zero, List.set_cons_succ, i64_w, i32_w]
                                                rfl
                                              refine pure_ (i := 6) (N := some 133) (v := ?_) (a' := ?_) #[true, true, true, true, false, false, true, false, false, false, false, false, false, false, false, false, false, false, false, false, false] rfl rfl (any_of HT_.out (by kernel_rfl)) (fun _ _ _ h => h) (Or.inl ⟨by rfl, ?_⟩) ?_ ?_
                                              rotate_left
                                              · intro w'
                                                go_simp
                                                with_reducible rfl
                                              rotate_left
                                              · simp only [Act.put, List.setIfInBounds_toArray, List.set_cons_zero, List.set_cons_succ, i64_w, i32_w]
                                                rfl
                                              refine pure_ (i := 7) (N := some 134) (v := ?_) (a' := ?_) #[true, true, true, true, false, false, true, true, false, false, false, false, false, false, false, false, false, false, false, false, false] rfl rfl (any_of HT_.out (by kernel_rfl)) (fun _ _ _ h => h) (Or.inl ⟨by rfl, ?_⟩) ?_ ?_
                                              rotate_left
                                              · intro w'
                                                go_simp
                                                with_reducible rfl
                                              rotate_left
                                              · simp only [Act.put, List.setIfInBounds_toArray, List.set_cons_zero, List.set_cons_succ, i64_w, i32_w]
                                                rfl
                                              refine pure_ (i := 8) (N := some 135) (v := ?_) (a' := ?_) #[true, true, true, true, false, false, true, true, true, false, false, false, false, false, false, false, false, false, false, false, false] rfl rfl (any_of HT_.out (by kernel_rfl)) (fun _ _ _ h => h) (Or.inl ⟨by rfl, ?_⟩) ?_ ?_
                                              rotate_left
                                              · intro w'
                                                go_simp
                                                with_reducible rfl
                                              rotate_left
                                              · simp only [Act.put, List.setIfInBounds_toArray, List.set_cons_zero, List.set_cons_succ, i64_w, i32_w]
                                                rfl
                                              refine pure_ (i := 9) (N := some 136) (v := ?_) (a' := ?_) #[true, true, true, true, false, false, true, true, true, true, false, false, false, false, false, false, false, false, false, false, false] rfl rfl (any_of HT_.out (by kernel_rfl)) (fun _ _ _ h => h) (Or.inl ⟨by rfl, ?_⟩) ?_ ?_
                                              rotate_left
                                              · intro w'
                                                go_simp
                                                with_reducible rfl
                                              rotate_left
                                              · simp only [Act.put, List.setIfInBounds_toArray, List.set_cons_zero, List.set_cons_succ, i64_w, i32_w]
                                                rfl
                                              refine take_ (i := 4) (N := some 131) (v := ?_) (a' := ?_) #[true, true, true, true, true, false, true, true, true, true, false, false, false, false, false, false, false, false, false, false, false] rfl rfl (take_ofW HT_.out HW_.out (by kernel_rfl)) (fun _ _ _ h => h) (Or.inl ⟨by rfl, ?_⟩) hHeld ?_ ?_
                                              rotate_left
                                              · rintro w' ⟨s0, s1, s2, s3⟩
                                                go_simp
                                                with_reducible rfl
                                              rotate_left
                                              · simp only [Act.put, List.setIfInBounds_toArray, List.set_cons_zero, List.set_cons_succ, i64_w, i32_w]
                                                rfl
                                              refine pure_ (i := 5) (N := some 132) (v := ?_) (a' := ?_) #[true, true, true, true, true, true, true, true, true, true, false, false, false, false, false, false, false, false, false, false, false] rfl rfl (any_of HT_.out (by kernel_rfl)) (fun _ _ _ h => h) (Or.inl ⟨by rfl, ?_⟩) ?_ ?_
                                              rotate_left
                                              · intro w'
                                                go_simp
                                                with_reducible rfl
                                              rotate_left
                                              · simp only [Act.put, List.setIfInBounds_toArray, List.set_cons_zero, List.set_cons_succ, i64_w, i32_w]
                                                rfl
                                              refine take_ (i := 10) (N := some 137) (v := ?_) (a' := ?_) #[true, true, true, true, true, true, true, true, true, true, true, false, false, false, false, false, false, false, false, false, false] rfl rfl (take_ofW HT_.out HW_.out (by kernel_rfl)) (fun _ _ _ h => h) (Or.inl ⟨by rfl, ?_⟩) hHeld ?_ ?_
                                              rotate_left
                                              · rintro w' ⟨s0, s1, s2, s3⟩
                                                go_simp
                                                with_reducible rfl
                                              rotate_left
                                              · simp only [Act.put, List.setIfInBounds_toArray, List.set_cons_zero, List.set_cons_succ, i64_w, i32_w]
                                                rfl
                                              refine pure_ (i := 11) (N := some 138) (v := ?_) (a' := ?_) #[true, true, true, true, true, true, true, true, true, true, true, true, false, false, false, false, false, false, false, false, false] rfl rfl (any_of HT_.out (by kernel_rfl)) (fun _ _ _ h => h) (Or.inl ⟨by rfl, ?_⟩) ?_ ?_
                                              rotate_left
                                              · intro w'
                                                go_simp
                                                with_reducible rfl
                                              rotate_left
                                              · simp only [Act.put, List.setIfInBounds_toArray, List.set_cons_zero, List.set_cons_succ, i64_w, i32_w]
                                                rfl
                                              refine pure_ (i := 12) (N := some 139) (v := ?_) (a' := ?_) #[true, true, true, true, true, true, true, true, true, true, true, true, true, false, false, false, false, false, false, false, false] rfl rfl (any_of HT_.out (by kernel_rfl)) (fun _ _ _ h => h) (Or.inl ⟨by rfl, ?_⟩) ?_ ?_
                                              rotate_left
                                              · intro w'
                                                go_simp
                                                with_reducible rfl
                                              rotate_left
                                              · simp only [Act.put, List.setIfInBounds_toArray, List.set_cons_zero, List.set_cons_succ, i64_w, i32_w]
                                                rfl
                                              refine one_ (i := 13) (N := some 140) #[true, true, true, true, true, true, true, true, true, true, true, true, true, true, false, false, false, false, false, false, false] rfl rfl (one_of HT_.out (by kernel_rfl)) (by decide) (fun K hK => ?_)
                                              refine goes_ Try.func30 (by kernel_rfl) rfl #[.agg #[.int .i64 (wrap64 (((rd_T43 t228 x12_2).f0) + 1)), .int .u64 (IntKind.u64.wrap (Int.tdiv ((rd_T43 t228 x12_2).f1) 2))]] (by rfl) rfl rfl (by (try simp only [List.map_toArray, List.map_cons, List.map_nil]); first | done | rfl | (simp only [List.length_drop, List.length_take]; rfl)) ?_
                                              with_reducible refine (massiflaw04_span.calls (wrap64 (((rd_T43 t228 x12_2).f0) + 1)) (IntKind.u64.wrap (Int.tdiv ((rd_T43 t228 x12_2).f1) 2)) t244 t245 false _ A54.out).mono ?_
                                              rintro e w71 ⟨rfl, hb⟩
                                              have HS0_ := (hb.cell (World.block_lt_of_cell? _ _ (hHeld.1))).trans (hHeld.1)
                                              have HS1_ := (hb.cell (World.block_lt_of_cell? _ _ (hHeld.2.1))).trans (hHeld.2.1)
                                              have HS2_ := (hb.cell (World.block_lt_of_cell? _ _ (hHeld.2.2.1))).trans (hHeld.2.2.1)
                                              have HS3_ := (hb.cell (World.block_lt_of_cell? _ _ (hHeld.2.2.2))).trans (hHeld.2.2.2)
                                              refine ⟨_, rfl, ?_⟩
                                              have n0_ := Aside0.mk (Kd.R_below (by (with_reducible repeat (first | apply Kd.R_alloc | apply Kd.R_drewN | apply Kd.R_drew)); exact HO_6.out) hb)
                                              have n1_ := Aside0.mk (Kd.R_below (by (with_reducible repeat (first | apply Kd.R_alloc | apply Kd.R_drewN | apply Kd.R_drew)); exact HO_7.out) hb)
                                              have n2_ := Aside0.mk (below_step (by repeat (first | (with_reducible first | exact HB.out | apply below_alloc | apply pw_below_drewN | apply below_drew1) | exact HB.out)) hb)
                                              clear HO_6
                                              clear HO_7
                                              clear HB
                                              have HO_6 := n0_
                                              have HO_7 := n1_
                                              have HB := n2_
                                              clear n0_ n1_ n2_
                                              (try clear hb)
                                              (try clear hb2)
                                              (try clear hk)
                                              (try clear hi)
                                              refine hK.out _ _ ⟨HS0_, HS1_, HS2_, HS3_⟩ (fun hHeld => ?_)
                                              clear hK K
                                              refine norm_ (a' := ?_) ?_ ?_
                                              rotate_left
                                              · show Act.put _ (some 140) _ = _
                                                simp only [Act.put, List.setIfInBounds_toArray, List.set_cons_zero, List.set_cons_succ, i64_w, i32_w]
                                                rfl
                                              refine pure_ (i := 14) (N := some 126) (v := ?_) (a' := ?_) #[true, true, true, true, true, true, true, true, true, true, true, true, true, true, true, false, false, false, false, false, false] rfl rfl (any_of HT_.out (by kernel_rfl)) (fun _ _ _ h => h) (Or.inl ⟨by rfl, ?_⟩) ?_ ?_
                                              rotate_left
                                              · intro w'
                                                go_simp
                                                with_reducible rfl
                                              rotate_left
                                              · simp only [Act.put, List.setIfInBounds_toArray, List.set_cons_zero, List.set_cons_succ, i64_w, i32_w]
                                                rfl
                                              refine pure_ (i := 15) (N := some 141) (v := ?_) (a' := ?_) #[true, true, true, true, true, true, true, true, true, true, true, true, true, true, true, true, false, false, false, false, false] rfl rfl (any_of HT_.out (by kernel_rfl)) (fun _ _ _ h => h) (Or.inl ⟨by rfl, ?_⟩) ?_ ?_
                                              rotate_left
                                              · intro w'
                                                go_simp
                                                with_reducible rfl
                                              rotate_left
                                              · simp only [Act.put, List.setIfInBounds_toArray, List.set_cons_zero, List.set_cons_succ, i64_w, i32_w]
                                                rfl
                                              refine pure_ (i := 16) (N := some 142) (v := ?_) (a' := ?_) #[true, true, true, true, true, true, true, true, true, true, true, true, true, true, true, true, true, false, false, false, false] rfl rfl (any_of HT_.out (by kernel_rfl)) (fun _ _ _ h => h) (Or.inl ⟨by rfl, ?_⟩) ?_ ?_
                                              rotate_left
                                              · intro w'
                                                go_simp
                                                with_reducible rfl
                                              rotate_left
                                              · simp only [Act.put, List.setIfInBounds_toArray, List.set_cons_zero, List.set_cons_succ, i64_w, i32_w]
                                                rfl
                                              refine pure_ (i := 17) (N := some 143) (v := ?_) (a' := ?_) #[true, true, true, true, true, true, true, true, true, true, true, true, true, true, true, true, true, true, false, false, false] rfl rfl (any_of HT_.out (by kernel_rfl)) (fun _ _ _ h => h) (Or.inl ⟨by rfl, ?_⟩) ?_ ?_
                                              rotate_left
                                              · intro w'
                                                go_simp
                                                with_reducible rfl
                                              rotate_left
                                              · simp only [Act.put, List.setIfInBounds_toArray, List.set_cons_zero, List.set_cons_succ, i64_w, i32_w]
                                                rfl
                                              refine pure_ (i := 18) (N := some 14) (v := ?_) (a' := ?_) #[true, true, true, true, true, true, true, true, true, true, true, true, true, true, true, true, true, true, true, false, false] rfl rfl (any_of HT_.out (by kernel_rfl)) (fun _ _ _ h => h) (Or.inl ⟨by rfl, ?_⟩) ?_ ?_
                                              rotate_left
                                              · intro w'
                                                go_simp
                                                with_reducible rfl
                                              rotate_left
                                              · simp only [Act.put, List.setIfInBounds_toArray, List.set_cons_zero, List.set_cons_succ, i64_w, i32_w]
                                                rfl
                                              refine pure_ (i := 19) (N := some 15) (v := ?_) (a' := ?_) #[true, true, true, true, true, true, true, true, true, true, true, true, true, true, true, true, true, true, true, true, false] rfl rfl (any_of HT_.out (by kernel_rfl)) (fun _ _ _ h => h) (Or.inl ⟨by rfl, ?_⟩) ?_ ?_
                                              rotate_left
                                              · intro w'
                                                go_simp
                                                with_reducible rfl
                                              rotate_left
                                              · simp only [Act.put, List.setIfInBounds_toArray, List.set_cons_zero, List.set_cons_succ, i64_w, i32_w]
                                                rfl
                                              refine pure_ (i := 20) (N := some 16) (v := ?_) (a' := ?_) #[true, true, true, true, true, true, true, true, true, true, true, true, true, true, true, true, true, true, true, true, true] rfl rfl (any_of HT_.out (by kernel_rfl)) (fun _ _ _ h => h) (Or.inl ⟨by rfl, ?_⟩) ?_ ?_
                                              rotate_left
                                              · intro w'
                                                go_simp
                                                with_reducible rfl
                                              rotate_left
                                              · simp only [Act.put, List.setIfInBounds_toArray, List.set_cons_zero, List.set_cons_succ, i64_w, i32_w]
                                                rfl
                                              refine done_ (done_of HT_.out (by kernel_rfl)) ?_
                                              have p256 : 0 ≤ (x12_2 : Int) := of_decide_eq_true (by first | (with_reducible assumption) | assumption)
                                              have q256 : x12_2 < (t228.length : Int) := of_decide_eq_true (by first | (with_reducible assumption) | assumption)
                                              obtain ⟨ad256, e256, hx256_0, hx256_1⟩ := at_T43 (Kd.R_reads' HO_7.out).2.2 x12_2 p256 q256
                                              obtain rfl : ad238 = ad256 := (by injection e256)
                                              replace p256 := eq_true p256
                                              replace q256 := eq_true q256
                                              try go_wp2_with (first | ((with_reducible refine gate_callee (f := 30) rfl ?_); refine goesL_ (some 162) rfl rfl Try.func30 (by kernel_rfl) rfl #[.agg #[.int .i64 ((rd_T43 t228 x12_2).f0), .int .u64 ((rd_T43 t228 x12_2).f1)]] rfl (by (try simp only [List.map_toArray, List.map_cons, List.map_nil]); first | done | rfl | (simp only [List.length_drop, List.length_take]; rfl)) ?_; (with_reducible refine (massiflaw04_span.calls ((rd_T43 t228 x12_2).f0) ((rd_T43 t228 x12_2).f1) t257 t258 t259 _ A69.out).mono ?_); rintro e w72 ⟨rfl, hb⟩; refine ⟨_, rfl, ?_⟩; have n0_ := Aside0.mk (Kd.R_below (by (with_reducible repeat (first | apply Kd.R_alloc | apply Kd.R_drewN | apply Kd.R_drew)); exact HO_6.out) hb); have n1_ := Aside0.mk (Kd.R_below (by (with_reducible repeat (first | apply Kd.R_alloc | apply Kd.R_drewN | apply Kd.R_drew)); exact HO_7.out) hb); have n2_ := Aside0.mk (below_step (by repeat (first | (with_reducible first | exact HB.out | apply below_alloc | apply pw_below_drewN | apply below_drew1) | exact HB.out)) hb); clear HO_6; clear HO_7; clear HB; have HO_6 := n0_; have HO_7 := n1_; have HB := n2_; clear n0_ n1_ n2_; (try clear hb); (try clear hb2); (try clear hk); (try clear hi)))
                                              go_roundg kj45
                                              case measure => have := HJ10.out; have := HK2.out; have := HJ31.out; have := HJ36.out; have := HJ45.out; omega
                                              case rel => exact ⟨(t258), (wrap64 (x12_2 + 1)), (x13_2), (by first | rfl | (simp; done) | (simp [*]; done)), (by first | rfl | (simp; done) | (simp [*]; done)), (by first | rfl | (simp; done) | (simp [*]; done)), H', ⟨by have := HJ10.out; have := HK2.out; have := HJ31.out; have := HJ36.out; have := HJ45.out; omega⟩, ⟨by (with_reducible repeat (first | apply Kd.R_alloc | apply Kd.R_drewN | apply Kd.R_drew)); exact HO_6.out⟩, ⟨by (with_reducible repeat (first | apply Kd.R_alloc | apply Kd.R_drewN | apply Kd.R_drew)); exact HO_7.out⟩, ⟨by repeat (first | (with_reducible first | exact HB.out | apply below_alloc | apply pw_below_drewN | apply below_drew1) | exact HB.out)⟩⟩
                                          · rw [if_neg c53] at H
                                            exact absurd H (by simp)
                                        · rw [if_neg c52] at H
                                          exact absurd H (by simp)
                                · rw [if_neg c44] at H
                                  exact absurd H (by simp)
                              · rw [if_neg c43] at H
                                exact absurd H (by simp)
                    · replace c36 := Bool.eq_false_iff.mpr c36
                      subst c36
                      have H1 : (if x11_2 = (IntKind.u64.wrap (t215 + 1)) then (if 0 ≤ (wrap64 ((t225.length : Int) / 2)) then (if (wrap64 ((t225.length : Int) / 2)) < (t225.length : Int) then ((cover_Rest.f (IntKind.u64.wrap (t215 + 1)) (([rd t225 (wrap64 ((t225.length : Int) / 2))] : List Int))).bind fun bt264 => ((cover_Range.f 0 (rd t225 (wrap64 ((t225.length : Int) / 2))) (IntKind.u64.wrap (t215 + 1))).bind fun bt268 => ((cover_Range.f (IntKind.u64.wrap ((rd t225 (wrap64 ((t225.length : Int) / 2))) + 1)) (IntKind.u64.wrap (t215 + 1)) (IntKind.u64.wrap (t215 + 1))).bind fun bt272 => ((massiflaw04_num.f bt264.2).bind fun t276 => (if t276 = 0 then ((massiflaw04_num.f bt268.2).bind fun t277 => (if t277 = 0 then ((massiflaw04_num.f bt272.2).bind fun t278 => (if t278 = 0 then (if ([] : List (S43)).length + bt268.1.length < 8796093022208 then ((some (([] : List (S43)) ++ bt268.1 : List (S43))).bind fun y279 => (if y279.length + bt272.1.length < 8796093022208 then ((massiflaw04_same.f kj31 bt264.1 (y279 ++ bt272.1)).bind fun t285 => (some t285)) else (none))) else (none)) else (some false))) else (some false))) else (some false)))))) else (none)) else (none)) else (some false)) = some r := by rw [if_neg (show ¬ (false = true) by decide)] at H; exact H
                      clear H
                      have H := H1
                      clear H1
                      by_cases c73 : x11_2 = (IntKind.u64.wrap (t215 + 1))
                      · as_aux_lemma =>
                          rw [if_pos c73] at H
                          have c73b0 : (x11_2 == (IntKind.u64.wrap (t215 + 1))) = true := beq_iff_eq.mpr c73
                          have c73b1 : (x11_2 != (IntKind.u64.wrap (t215 + 1))) = false := bne_eq_false_iff_eq.mpr c73
                          clear c73
                          obtain ⟨ji74, hji74⟩ : ∃ j_ : Int, (wrap64 ((t225.length : Int) / 2)) = j_ := ⟨_, rfl⟩
                          replace H : (if 0 ≤ (ji74) then (if (ji74) < (t225.length : Int) then ((cover_Rest.f (IntKind.u64.wrap (t215 + 1)) (([rd t225 (ji74)] : List Int))).bind fun bt264 => ((cover_Range.f 0 (rd t225 (ji74)) (IntKind.u64.wrap (t215 + 1))).bind fun bt268 => ((cover_Range.f (IntKind.u64.wrap ((rd t225 (ji74)) + 1)) (IntKind.u64.wrap (t215 + 1)) (IntKind.u64.wrap (t215 + 1))).bind fun bt272 => ((massiflaw04_num.f bt264.2).bind fun t276 => (if t276 = 0 then ((massiflaw04_num.f bt268.2).bind fun t277 => (if t277 = 0 then ((massiflaw04_num.f bt272.2).bind fun t278 => (if t278 = 0 then (if ([] : List (S43)).length + bt268.1.length < 8796093022208 then ((some (([] : List (S43)) ++ bt268.1 : List (S43))).bind fun y279 => (if y279.length + bt272.1.length < 8796093022208 then ((massiflaw04_same.f kj31 bt264.1 (y279 ++ bt272.1)).bind fun t285 => (some t285)) else (none))) else (none)) else (some false))) else (some false))) else (some false)))))) else (none)) else (none)) = some r := by first | (rw [hji74] at H; exact H) | (simp only [hji74] at H ⊢; exact H)
                          have hji74w : (IntKind.i64.wrap ((t225.length : Int) / 2)) = ji74 := (i64_w _).trans hji74
                          by_cases c75 : 0 ≤ (ji74)
                          · as_aux_lemma =>
                              rw [if_pos c75] at H
                              have c75b0 : decide (0 ≤ (ji74)) = true := decide_eq_true c75
                              clear c75
                              by_cases c76 : (ji74) < (t225.length : Int)
                              · as_aux_lemma =>
                                  rw [if_pos c76] at H
                                  have c76b0 : decide ((ji74) < (t225.length : Int)) = true := decide_eq_true c76
                                  clear c76
                                  obtain ⟨y261, hy261⟩ : ∃ y_ : List Int, y_ = (([rd t225 (ji74)] : List Int)) := ⟨_, rfl⟩
                                  replace H : ((cover_Rest.f (IntKind.u64.wrap (t215 + 1)) y261).bind fun bt264 => ((cover_Range.f 0 (rd t225 (ji74)) (IntKind.u64.wrap (t215 + 1))).bind fun bt268 => ((cover_Range.f (IntKind.u64.wrap ((rd t225 (ji74)) + 1)) (IntKind.u64.wrap (t215 + 1)) (IntKind.u64.wrap (t215 + 1))).bind fun bt272 => ((massiflaw04_num.f bt264.2).bind fun t276 => (if t276 = 0 then ((massiflaw04_num.f bt268.2).bind fun t277 => (if t277 = 0 then ((massiflaw04_num.f bt272.2).bind fun t278 => (if t278 = 0 then (if ([] : List (S43)).length + bt268.1.length < 8796093022208 then ((some (([] : List (S43)) ++ bt268.1 : List (S43))).bind fun y279 => (if y279.length + bt272.1.length < 8796093022208 then ((massiflaw04_same.f kj31 bt264.1 (y279 ++ bt272.1)).bind fun t285 => (some t285)) else (none))) else (none)) else (some false))) else (some false))) else (some false)))))) = some r := by first | (rw [hy261]; with_reducible exact H) | (have H2_ := (Option.bind_some _ _).symm.trans H; rw [hy261]; with_reducible exact H2_) | (have H2_ := (Option.bind_some _ _).symm.trans H; with_reducible exact H2_) | with_reducible exact H | (rw [hy261]; exact H) | exact H
                                  have Ny261 := Aside0.mk hy261
                                  clear hy261
                                  replace H := Option.bind_eq_some_iff.mp H
                                  obtain ⟨⟨t264, t265⟩, A770, H⟩ := H
                                  replace H : ((cover_Range.f 0 (rd t225 (ji74)) (IntKind.u64.wrap (t215 + 1))).bind fun bt268 => ((cover_Range.f (IntKind.u64.wrap ((rd t225 (ji74)) + 1)) (IntKind.u64.wrap (t215 + 1)) (IntKind.u64.wrap (t215 + 1))).bind fun bt272 => ((massiflaw04_num.f t265).bind fun t276 => (if t276 = 0 then ((massiflaw04_num.f bt268.2).bind fun t277 => (if t277 = 0 then ((massiflaw04_num.f bt272.2).bind fun t278 => (if t278 = 0 then (if ([] : List (S43)).length + bt268.1.length < 8796093022208 then ((some (([] : List (S43)) ++ bt268.1 : List (S43))).bind fun y279 => (if y279.length + bt272.1.length < 8796093022208 then ((massiflaw04_same.f kj31 t264 (y279 ++ bt272.1)).bind fun t285 => (some t285)) else (none))) else (none)) else (some false))) else (some false))) else (some false))))) = some r := H
                                  have A77 := Aside0.mk A770
                                  clear A770
                                  replace H := Option.bind_eq_some_iff.mp H
                                  obtain ⟨⟨t268, t269⟩, A780, H⟩ := H
                                  replace H : ((cover_Range.f (IntKind.u64.wrap ((rd t225 (ji74)) + 1)) (IntKind.u64.wrap (t215 + 1)) (IntKind.u64.wrap (t215 + 1))).bind fun bt272 => ((massiflaw04_num.f t265).bind fun t276 => (if t276 = 0 then ((massiflaw04_num.f t269).bind fun t277 => (if t277 = 0 then ((massiflaw04_num.f bt272.2).bind fun t278 => (if t278 = 0 then (if ([] : List (S43)).length + t268.length < 8796093022208 then ((some (([] : List (S43)) ++ t268 : List (S43))).bind fun y279 => (if y279.length + bt272.1.length < 8796093022208 then ((massiflaw04_same.f kj31 t264 (y279 ++ bt272.1)).bind fun t285 => (some t285)) else (none))) else (none)) else (some false))) else (some false))) else (some false)))) = some r := H
                                  have A78 := Aside0.mk A780
                                  clear A780
                                  replace H := Option.bind_eq_some_iff.mp H
                                  obtain ⟨⟨t272, t273⟩, A790, H⟩ := H
                                  replace H : ((massiflaw04_num.f t265).bind fun t276 => (if t276 = 0 then ((massiflaw04_num.f t269).bind fun t277 => (if t277 = 0 then ((massiflaw04_num.f t273).bind fun t278 => (if t278 = 0 then (if ([] : List (S43)).length + t268.length < 8796093022208 then ((some (([] : List (S43)) ++ t268 : List (S43))).bind fun y279 => (if y279.length + t272.length < 8796093022208 then ((massiflaw04_same.f kj31 t264 (y279 ++ t272)).bind fun t285 => (some t285)) else (none))) else (none)) else (some false))) else (some false))) else (some false))) = some r := H
                                  have A79 := Aside0.mk A790
                                  clear A790
                                  replace H := Option.bind_eq_some_iff.mp H
                                  obtain ⟨t276, A800, H⟩ := H
                                  replace H : (if t276 = 0 then ((massiflaw04_num.f t269).bind fun t277 => (if t277 = 0 then ((massiflaw04_num.f t273).bind fun t278 => (if t278 = 0 then (if ([] : List (S43)).length + t268.length < 8796093022208 then ((some (([] : List (S43)) ++ t268 : List (S43))).bind fun y279 => (if y279.length + t272.length < 8796093022208 then ((massiflaw04_same.f kj31 t264 (y279 ++ t272)).bind fun t285 => (some t285)) else (none))) else (none)) else (some false))) else (some false))) else (some false)) = some r := H
                                  have A80 := Aside0.mk A800
                                  clear A800
                                  by_cases c81 : t276 = 0
                                  · rw [if_pos c81] at H
                                    have c81b0 : (t276 == 0) = true := beq_iff_eq.mpr c81
                                    have c81b1 : (t276 != 0) = false := bne_eq_false_iff_eq.mpr c81
                                    clear c81
                                    replace H := Option.bind_eq_some_iff.mp H
                                    obtain ⟨t277, A820, H⟩ := H
                                    replace H : (if t277 = 0 then ((massiflaw04_num.f t273).bind fun t278 => (if t278 = 0 then (if ([] : List (S43)).length + t268.length < 8796093022208 then ((some (([] : List (S43)) ++ t268 : List (S43))).bind fun y279 => (if y279.length + t272.length < 8796093022208 then ((massiflaw04_same.f kj31 t264 (y279 ++ t272)).bind fun t285 => (some t285)) else (none))) else (none)) else (some false))) else (some false)) = some r := H
                                    have A82 := Aside0.mk A820
                                    clear A820
                                    by_cases c83 : t277 = 0
                                    · rw [if_pos c83] at H
                                      have c83b0 : (t277 == 0) = true := beq_iff_eq.mpr c83
                                      have c83b1 : (t277 != 0) = false := bne_eq_false_iff_eq.mpr c83
                                      clear c83
                                      replace H := Option.bind_eq_some_iff.mp H
                                      obtain ⟨t278, A840, H⟩ := H
                                      replace H : (if t278 = 0 then (if ([] : List (S43)).length + t268.length < 8796093022208 then ((some (([] : List (S43)) ++ t268 : List (S43))).bind fun y279 => (if y279.length + t272.length < 8796093022208 then ((massiflaw04_same.f kj31 t264 (y279 ++ t272)).bind fun t285 => (some t285)) else (none))) else (none)) else (some false)) = some r := H
                                      have A84 := Aside0.mk A840
                                      clear A840
                                      by_cases c85 : t278 = 0
                                      · rw [if_pos c85] at H
                                        have c85b0 : (t278 == 0) = true := beq_iff_eq.mpr c85
                                        have c85b1 : (t278 != 0) = false := bne_eq_false_iff_eq.mpr c85
                                        clear c85
                                        by_cases c86 : ([] : List (S43)).length + t268.length < 8796093022208
                                        · rw [if_pos c86] at H
                                          have LMc86 := Aside0.mk c86
                                          clear c86
                                          obtain ⟨y279, hy279⟩ : ∃ y_ : List (S43), y_ = (([] : List (S43)) ++ t268) := ⟨_, rfl⟩
                                          replace H : (if y279.length + t272.length < 8796093022208 then ((massiflaw04_same.f kj31 t264 (y279 ++ t272)).bind fun t285 => (some t285)) else (none)) = some r := by first | (rw [hy279]; with_reducible exact H) | (have H2_ := (Option.bind_some _ _).symm.trans H; rw [hy279]; with_reducible exact H2_) | (have H2_ := (Option.bind_some _ _).symm.trans H; with_reducible exact H2_) | with_reducible exact H | (rw [hy279]; exact H) | exact H
                                          have Ny279 := Aside0.mk hy279
                                          clear hy279
                                          by_cases c87 : y279.length + t272.length < 8796093022208
                                          · rw [if_pos c87] at H
                                            have LMc87 := Aside0.mk c87
                                            clear c87
                                            obtain ⟨y282, hy282⟩ : ∃ y_ : List (S43), y_ = (y279 ++ t272) := ⟨_, rfl⟩
                                            replace H : ((massiflaw04_same.f kj31 t264 y282).bind fun t285 => (some t285)) = some r := by first | (rw [hy282]; with_reducible exact H) | (have H2_ := (Option.bind_some _ _).symm.trans H; rw [hy282]; with_reducible exact H2_) | (have H2_ := (Option.bind_some _ _).symm.trans H; with_reducible exact H2_) | with_reducible exact H | (rw [hy282]; exact H) | exact H
                                            have Ny282 := Aside0.mk hy282
                                            clear hy282
                                            replace H := Option.bind_eq_some_iff.mp H
                                            obtain ⟨t285, A880, H⟩ := H
                                            replace H : (some t285) = some r := H
                                            have A88 := Aside0.mk A880
                                            clear A880
                                            obtain rfl := Option.some.inj H
                                            have p260 : 0 ≤ ((ji74) : Int) := of_decide_eq_true (by first | (with_reducible assumption) | assumption)
                                            have q260 : (ji74) < (t225.length : Int) := of_decide_eq_true (by first | (with_reducible assumption) | assumption)
                                            obtain ⟨ad260, e260, hx260_0⟩ := Kd.at_int (Kd.R_reads' HO_6.out).2.2 (ji74) p260 q260
                                            cases e260
                                            replace p260 := eq_true p260
                                            replace q260 := eq_true q260
                                            go_wp2_with (first | ((with_reducible refine gate_dst (N := 180) rfl ?_); (try (refine gate_guard (by rfl) ?_; dsimp only)); refine Kd.R_lit (Kd.int .u64) _ 22 ?hg (N := 180) ?hd (xs := ([rd t225 (ji74)] : List Int)) (inner := [.int .u64 (rd t225 (ji74))]) (ok := fun _ => True) (okp := fun _ => True) ?hr ?hp (fun _ hk => hk) trivial (Below.refl _ _) (Nat.le_refl _) (by simp) ?_; (case hd => rfl); (case hg => rfl); (case hr => first | (go_simp; done) | (go_simp; rfl)); (case hp => exact (Reps.one (show Kd.M (Kd.int .u64) _ _ _ (rd t225 (ji74)) [.int .u64 (rd t225 (ji74))] from rfl) (Reps.none _ _))); intro v262 w89 ho90 hb hg_ hnew_; clear hg_ hnew_; (first | rw [← Ny261.out] at ho90 | (simp only [Int.reduceToNat] at ho90; rw [← Ny261.out] at ho90)); have n0_ := Aside0.mk (Kd.R_elder' (by (with_reducible repeat (first | apply Kd.R_alloc | apply Kd.R_drewN | apply Kd.R_drew)); exact HO_6.out) (Kd.R_base ho90) hb); have n1_ := Aside0.mk (Kd.R_below (by (with_reducible repeat (first | apply Kd.R_alloc | apply Kd.R_drewN | apply Kd.R_drew)); exact HO_7.out) hb); have n2_ := Aside0.mk (Kd.R_lower (Kd.R_new' ho90 (Kd.R_lt (by (with_reducible repeat (first | apply Kd.R_alloc | apply Kd.R_drewN | apply Kd.R_drew)); exact HO_6.out))) (below_size (by repeat (first | (with_reducible first | exact HB.out | apply below_alloc | apply pw_below_drewN | apply below_drew1) | exact HB.out)))); have n3_ := Aside0.mk (below_step (by repeat (first | (with_reducible first | exact HB.out | apply below_alloc | apply pw_below_drewN | apply below_drew1) | exact HB.out)) hb); clear HO_6; clear HO_7; clear HB; have HO_6 := n0_; have HO_7 := n1_; have HO263 := n2_; have HB := n3_; clear n0_ n1_ n2_ n3_; clear hb ho90; obtain ⟨Ao91, co91, eo91⟩ := Kd.R_slice HO263.out; subst eo91) | ((with_reducible refine gate_callee (f := 23) rfl ?_); refine goesL_ (some 181) rfl rfl Try.func23 (by kernel_rfl) rfl #[.int .u64 (IntKind.u64.wrap (t215 + 1)), .slice Ao91 y261.length co91] rfl (by (try simp only [List.map_toArray, List.map_cons, List.map_nil]); first | done | rfl | (simp only [List.length_drop, List.length_take]; rfl)) ?_; (with_reducible refine (cover_Rest.calls (IntKind.u64.wrap (t215 + 1)) _ _ y261 t264 t265 _ ?side1 ?side2 A77.out).mono ?_); (case side1 => repeat (first | exact (Kd.R_reads' HO263.out).2.2 | (with_reducible refine Kd.C_alloc ?_ _) | (with_reducible refine Kd.C_drewN ?_ _) | (with_reducible refine Kd.C_drew ?_))); (case side2 => exact (Kd.R_reads' HO263.out).2.1); rintro e w92 ⟨v266, rfl, ho0, hb⟩; refine ⟨_, rfl, ?_⟩; have n0_ := Aside0.mk (Kd.R_below (by (with_reducible repeat (first | apply Kd.R_alloc | apply Kd.R_drewN | apply Kd.R_drew)); exact HO_6.out) hb); have n1_ := Aside0.mk (Kd.R_elder' (by (with_reducible repeat (first | apply Kd.R_alloc | apply Kd.R_drewN | apply Kd.R_drew)); exact HO_7.out) (Kd.R_base ho0) hb); have n2_ := Aside0.mk (Kd.R_below (by (with_reducible repeat (first | apply Kd.R_alloc | apply Kd.R_drewN | apply Kd.R_drew)); exact HO263.out) hb); have n3_ := Aside0.mk (Kd.R_lower (Kd.R_new' ho0 (Kd.R_lt (by (with_reducible repeat (first | apply Kd.R_alloc | apply Kd.R_drewN | apply Kd.R_drew)); exact HO_7.out))) (below_size (by repeat (first | (with_reducible first | exact HB.out | apply below_alloc | apply pw_below_drewN | apply below_drew1) | exact HB.out)))); have n4_ := Aside0.mk (below_step (by repeat (first | (with_reducible first | exact HB.out | apply below_alloc | apply pw_below_drewN | apply below_drew1) | exact HB.out)) hb); clear HO_6; clear HO_7; clear HO263; clear HB; have HO_6 := n0_; have HO_7 := n1_; have HO263 := n2_; have HO267 := n3_; have HB := n4_; clear n0_ n1_ n2_ n3_ n4_; (try clear hb); (try clear hb2); (try clear hk); (try clear hi); (try clear ho0)) | ((with_reducible refine gate_callee (f := 17) rfl ?_); refine goesL_ (some 187) rfl rfl Try.func17 (by kernel_rfl) rfl #[.int .u64 0, .int .u64 (rd t225 (ji74)), .int .u64 (IntKind.u64.wrap (t215 + 1))] rfl (by (try simp only [List.map_toArray, List.map_cons, List.map_nil]); first | done | (simp only [hji74]; rfl) | rfl | (simp only [List.length_drop, List.length_take]; rfl)) ?_; (with_reducible refine (cover_Range.calls 0 (rd t225 (ji74)) (IntKind.u64.wrap (t215 + 1)) t268 t269 _ A78.out).mono ?_); rintro e w93 ⟨v270, rfl, ho0, hb⟩; refine ⟨_, rfl, ?_⟩; have n0_ := Aside0.mk (Kd.R_below (by (with_reducible repeat (first | apply Kd.R_alloc | apply Kd.R_drewN | apply Kd.R_drew)); exact HO_6.out) hb); have n1_ := Aside0.mk (Kd.R_elder' (by (with_reducible repeat (first | apply Kd.R_alloc | apply Kd.R_drewN | apply Kd.R_drew)); exact HO_7.out) (Kd.R_base ho0) hb); have n2_ := Aside0.mk (Kd.R_below (by (with_reducible repeat (first | apply Kd.R_alloc | apply Kd.R_drewN | apply Kd.R_drew)); exact HO263.out) hb); have n3_ := Aside0.mk (Kd.R_elder' (by (with_reducible repeat (first | apply Kd.R_alloc | apply Kd.R_drewN | apply Kd.R_drew)); exact HO267.out) (Kd.R_base ho0) hb); have n4_ := Aside0.mk (Kd.R_lower (Kd.R_new' (Kd.R_new' ho0 (Kd.R_lt (by (with_reducible repeat (first | apply Kd.R_alloc | apply Kd.R_drewN | apply Kd.R_drew)); exact HO_7.out))) (Kd.R_lt (by (with_reducible repeat (first | apply Kd.R_alloc | apply Kd.R_drewN | apply Kd.R_drew)); exact HO267.out))) (below_size (by repeat (first | (with_reducible first | exact HB.out | apply below_alloc | apply pw_below_drewN | apply below_drew1) | exact HB.out)))); have n5_ := Aside0.mk (below_step (by repeat (first | (with_reducible first | exact HB.out | apply below_alloc | apply pw_below_drewN | apply below_drew1) | exact HB.out)) hb); clear HO_6; clear HO_7; clear HO263; clear HO267; clear HB; have HO_6 := n0_; have HO_7 := n1_; have HO263 := n2_; have HO267 := n3_; have HO271 := n4_; have HB := n5_; clear n0_ n1_ n2_ n3_ n4_ n5_; (try clear hb); (try clear hb2); (try clear hk); (try clear hi); (try clear ho0)) | ((with_reducible refine gate_callee (f := 17) rfl ?_); refine goesL_ (some 195) rfl rfl Try.func17 (by kernel_rfl) rfl #[.int .u64 (IntKind.u64.wrap ((rd t225 (ji74)) + 1)), .int .u64 (IntKind.u64.wrap (t215 + 1)), .int .u64 (IntKind.u64.wrap (t215 + 1))] rfl (by (try simp only [List.map_toArray, List.map_cons, List.map_nil]); first | done | (simp only [hji74]; rfl) | rfl | (simp only [List.length_drop, List.length_take]; rfl)) ?_; (with_reducible refine (cover_Range.calls (IntKind.u64.wrap ((rd t225 (ji74)) + 1)) (IntKind.u64.wrap (t215 + 1)) (IntKind.u64.wrap (t215 + 1)) t272 t273 _ A79.out).mono ?_); rintro e w94 ⟨v274, rfl, ho0, hb⟩; refine ⟨_, rfl, ?_⟩; have n0_ := Aside0.mk (Kd.R_below (by (with_reducible repeat (first | apply Kd.R_alloc | apply Kd.R_drewN | apply Kd.R_drew)); exact HO_6.out) hb); have n1_ := Aside0.mk (Kd.R_elder' (by (with_reducible repeat (first | apply Kd.R_alloc | apply Kd.R_drewN | apply Kd.R_drew)); exact HO_7.out) (Kd.R_base ho0) hb); have n2_ := Aside0.mk (Kd.R_below (by (with_reducible repeat (first | apply Kd.R_alloc | apply Kd.R_drewN | apply Kd.R_drew)); exact HO263.out) hb); have n3_ := Aside0.mk (Kd.R_elder' (by (with_reducible repeat (first | apply Kd.R_alloc | apply Kd.R_drewN | apply Kd.R_drew)); exact HO267.out) (Kd.R_base ho0) hb); have n4_ := Aside0.mk (Kd.R_elder' (by (with_reducible repeat (first | apply Kd.R_alloc | apply Kd.R_drewN | apply Kd.R_drew)); exact HO271.out) (Kd.R_base ho0) hb); have n5_ := Aside0.mk (Kd.R_lower (Kd.R_new' (Kd.R_new' (Kd.R_new' ho0 (Kd.R_lt (by (with_reducible repeat (first | apply Kd.R_alloc | apply Kd.R_drewN | apply Kd.R_drew)); exact HO_7.out))) (Kd.R_lt (by (with_reducible repeat (first | apply Kd.R_alloc | apply Kd.R_drewN | apply Kd.R_drew)); exact HO267.out))) (Kd.R_lt (by (with_reducible repeat (first | apply Kd.R_alloc | apply Kd.R_drewN | apply Kd.R_drew)); exact HO271.out))) (below_size (by repeat (first | (with_reducible first | exact HB.out | apply below_alloc | apply pw_below_drewN | apply below_drew1) | exact HB.out)))); have n6_ := Aside0.mk (below_step (by repeat (first | (with_reducible first | exact HB.out | apply below_alloc | apply pw_below_drewN | apply below_drew1) | exact HB.out)) hb); clear HO_6; clear HO_7; clear HO263; clear HO267; clear HO271; clear HB; have HO_6 := n0_; have HO_7 := n1_; have HO263 := n2_; have HO267 := n3_; have HO271 := n4_; have HO275 := n5_; have HB := n6_; clear n0_ n1_ n2_ n3_ n4_ n5_ n6_; (try clear hb); (try clear hb2); (try clear hk); (try clear hi); (try clear ho0)) | ((with_reducible refine gate_callee (f := 19) rfl ?_); refine goesL_ (some 199) rfl rfl Try.func19 (by kernel_rfl) rfl #[.int .i64 t265] rfl (by (try simp only [List.map_toArray, List.map_cons, List.map_nil]); first | done | rfl | (simp only [List.length_drop, List.length_take]; rfl)) ?_; (with_reducible refine (massiflaw04_num.calls t265 t276 _ A80.out).mono ?_); rintro e w' ⟨rfl, ⟨nd, rfl⟩⟩; refine ⟨_, rfl, ?_⟩) | (go_at_call 19; (with_reducible refine (massiflaw04_num.calls t269 t277 _ A82.out).mono ?_); rintro e w' ⟨rfl, ⟨nd, rfl⟩⟩) | (go_at_call 19; (with_reducible refine (massiflaw04_num.calls t273 t278 _ A84.out).mono ?_); rintro e w' ⟨rfl, ⟨nd, rfl⟩⟩; obtain ⟨Ao96, co96, eo96⟩ := Kd.R_slice HO271.out; subst eo96) | ((with_reducible refine gate_builtin (b := .append) (xs := #[.const (.slice none 0 0), .tmp 213]) rfl ?_); (try (refine gate_guard (by rfl) ?_; dsimp only)); at_builtin; refine Kd.R_append_rows k43 (w0 := w) w.heap.size rfl (.const (.slice none 0 0)) (.tmp 213) 24 43 (.agg #[(.int .i64 0), (.int .u64 0)]) 16 rfl Try.underlying24 info43 rfl (by decide) (by omega) (.slice none 0 0) ([] : List (S43)) t268 _ _ _ (fun k_ => some k_ ≠ (v230 : Value).ownBlock ∧ some k_ ≠ (v266 : Value).ownBlock ∧ some k_ ≠ (.slice Ao96 t268.length co96 : Value).ownBlock ∧ some k_ ≠ (v274 : Value).ownBlock) (fun _ => False) rfl rfl ?aO ?aR (fun _ _ h => h) (fun _ h => h.elim) ?aF ?aB ?aS ?aL ?_; (case aR => repeat (first | exact (Kd.R_reads' HO271.out).2.2 | (with_reducible refine Kd.C_alloc ?_ _) | (with_reducible refine Kd.C_drewN ?_ _) | (with_reducible refine Kd.C_drew ?_))); (case aB => exact (by repeat (first | (with_reducible first | exact HB.out | apply below_alloc | apply pw_below_drewN | apply below_drew1) | exact HB.out))); (case aF => exact (fun k_ hk => ⟨Kd.fresh' (Kd.R_lt (by (with_reducible repeat (first | apply Kd.R_alloc | apply Kd.R_drewN | apply Kd.R_drew)); exact HO_7.out)) k_ hk, Kd.fresh' (Kd.R_lt (by (with_reducible repeat (first | apply Kd.R_alloc | apply Kd.R_drewN | apply Kd.R_drew)); exact HO267.out)) k_ hk, Kd.fresh' (Kd.R_lt (by (with_reducible repeat (first | apply Kd.R_alloc | apply Kd.R_drewN | apply Kd.R_drew)); exact HO271.out)) k_ hk, Kd.fresh' (Kd.R_lt (by (with_reducible repeat (first | apply Kd.R_alloc | apply Kd.R_drewN | apply Kd.R_drew)); exact HO275.out)) k_ hk⟩)); (case aO => exact ((Kd.R_nil _ _ _ _ (fun k_ => some k_ ≠ (v230 : Value).ownBlock ∧ some k_ ≠ (v266 : Value).ownBlock ∧ some k_ ≠ (.slice Ao96 t268.length co96 : Value).ownBlock ∧ some k_ ≠ (v274 : Value).ownBlock)))); (case aS => exact (below_size (by repeat (first | (with_reducible first | exact HB.out | apply below_alloc | apply pw_below_drewN | apply below_drew1) | exact HB.out)))); (case aL => have := LMc86.out; omega); intro v280 w95 ho hb hg hat; rw [← Ny279.out] at ho; have n0_ := Aside0.mk (Kd.R_grown (by (with_reducible repeat (first | apply Kd.R_alloc | apply Kd.R_drewN | apply Kd.R_drew)); exact HO_6.out) hg (fun _ _ => by simp [Value.ownBlock])); have n1_ := Aside0.mk (Kd.R_after (Kd.R_apart_nil (by (with_reducible repeat (first | apply Kd.R_alloc | apply Kd.R_drewN | apply Kd.R_drew)); exact HO_7.out)) hg hat); have n2_ := Aside0.mk (Kd.R_grown (by (with_reducible repeat (first | apply Kd.R_alloc | apply Kd.R_drewN | apply Kd.R_drew)); exact HO263.out) hg (fun _ _ => by simp [Value.ownBlock])); have n3_ := Aside0.mk (Kd.R_after (Kd.R_apart_nil (by (with_reducible repeat (first | apply Kd.R_alloc | apply Kd.R_drewN | apply Kd.R_drew)); exact HO267.out)) hg hat); have n4_ := Aside0.mk (Kd.R_after (Kd.R_apart_nil (by (with_reducible repeat (first | apply Kd.R_alloc | apply Kd.R_drewN | apply Kd.R_drew)); exact HO271.out)) hg hat); have n5_ := Aside0.mk (Kd.R_after (Kd.R_apart_nil (by (with_reducible repeat (first | apply Kd.R_alloc | apply Kd.R_drewN | apply Kd.R_drew)); exact HO275.out)) hg hat); have n6_ := Aside0.mk (hb); have n7_ := Aside0.mk (ho); clear HO_6; clear HO_7; clear HO263; clear HO267; clear HO271; clear HO275; clear HB; have HO_6 := n0_; have HO_7 := n1_; have HO263 := n2_; have HO267 := n3_; have HO271 := n4_; have HO275 := n5_; have HB := n6_; have HO281 := n7_; clear n0_ n1_ n2_ n3_ n4_ n5_ n6_ n7_; clear ho hb hg hat; obtain ⟨Ao98, co98, eo98⟩ := Kd.R_slice HO275.out; subst eo98) | ((with_reducible refine gate_builtin (b := .append) (xs := #[.tmp 214, .tmp 215]) rfl ?_); (try (refine gate_guard (by rfl) ?_; dsimp only)); at_builtin; refine Kd.R_append_rows k43 (w0 := w) w.heap.size rfl (.tmp 214) (.tmp 215) 24 43 (.agg #[(.int .i64 0), (.int .u64 0)]) 16 rfl Try.underlying24 info43 rfl (by decide) (by omega) v280 y279 t272 _ _ _ (fun k_ => some k_ ≠ (v230 : Value).ownBlock ∧ some k_ ≠ (v266 : Value).ownBlock ∧ some k_ ≠ (.slice Ao96 t268.length co96 : Value).ownBlock ∧ some k_ ≠ (.slice Ao98 t272.length co98 : Value).ownBlock) (fun _ => False) rfl rfl ?aO ?aR (fun _ _ h => h) (fun _ h => h.elim) ?aF ?aB ?aS ?aL ?_; (case aR => repeat (first | exact (Kd.R_reads' HO275.out).2.2 | (with_reducible refine Kd.C_alloc ?_ _) | (with_reducible refine Kd.C_drewN ?_ _) | (with_reducible refine Kd.C_drew ?_))); (case aB => exact (by repeat (first | (with_reducible first | exact HB.out | apply below_alloc | apply pw_below_drewN | apply below_drew1) | exact HB.out))); (case aF => exact (fun k_ hk => ⟨Kd.fresh' (Kd.R_lt (by (with_reducible repeat (first | apply Kd.R_alloc | apply Kd.R_drewN | apply Kd.R_drew)); exact HO_7.out)) k_ hk, Kd.fresh' (Kd.R_lt (by (with_reducible repeat (first | apply Kd.R_alloc | apply Kd.R_drewN | apply Kd.R_drew)); exact HO267.out)) k_ hk, Kd.fresh' (Kd.R_lt (by (with_reducible repeat (first | apply Kd.R_alloc | apply Kd.R_drewN | apply Kd.R_drew)); exact HO271.out)) k_ hk, Kd.fresh' (Kd.R_lt (by (with_reducible repeat (first | apply Kd.R_alloc | apply Kd.R_drewN | apply Kd.R_drew)); exact HO275.out)) k_ hk⟩)); (case aO => exact (by (with_reducible repeat (first | apply Kd.R_alloc | apply Kd.R_drewN | apply Kd.R_drew)); exact HO281.out)); (case aS => exact (below_size (by repeat (first | (with_reducible first | exact HB.out | apply below_alloc | apply pw_below_drewN | apply below_drew1) | exact HB.out)))); (case aL => have := LMc87.out; omega); intro v283 w97 ho hb hg hat; rw [← Ny282.out] at ho; have n0_ := Aside0.mk (Kd.R_over' (by (with_reducible repeat (first | apply Kd.R_alloc | apply Kd.R_drewN | apply Kd.R_drew)); exact HO_6.out) (Kd.R_typed (by (with_reducible repeat (first | apply Kd.R_alloc | apply Kd.R_drewN | apply Kd.R_drew)); exact HO281.out)) (by decide) hg); have n1_ := Aside0.mk (Kd.R_after (ok := (fun k_ => some k_ ≠ (v266 : Value).ownBlock ∧ some k_ ≠ (.slice Ao96 t268.length co96 : Value).ownBlock ∧ some k_ ≠ (.slice Ao98 t272.length co98 : Value).ownBlock)) (by (with_reducible repeat (first | apply Kd.R_alloc | apply Kd.R_drewN | apply Kd.R_drew)); exact Kd.R_mono HO_7.out (fun _ hk => ⟨⟨hk.1.1.1.2, ⟨hk.1.1.2, hk.1.2⟩⟩, hk.2⟩)) hg hat); have n2_ := Aside0.mk (Kd.R_over' (by (with_reducible repeat (first | apply Kd.R_alloc | apply Kd.R_drewN | apply Kd.R_drew)); exact HO263.out) (Kd.R_typed (by (with_reducible repeat (first | apply Kd.R_alloc | apply Kd.R_drewN | apply Kd.R_drew)); exact HO281.out)) (by decide) hg); have n3_ := Aside0.mk (Kd.R_after (ok := (fun k_ => some k_ ≠ (v230 : Value).ownBlock ∧ some k_ ≠ (.slice Ao96 t268.length co96 : Value).ownBlock ∧ some k_ ≠ (.slice Ao98 t272.length co98 : Value).ownBlock)) (by (with_reducible repeat (first | apply Kd.R_alloc | apply Kd.R_drewN | apply Kd.R_drew)); exact Kd.R_mono HO267.out (fun _ hk => ⟨⟨hk.1.1.1.2, ⟨hk.1.1.2, hk.1.2⟩⟩, hk.2⟩)) hg hat); have n4_ := Aside0.mk (Kd.R_after (ok := (fun k_ => some k_ ≠ (v230 : Value).ownBlock ∧ some k_ ≠ (v266 : Value).ownBlock ∧ some k_ ≠ (.slice Ao98 t272.length co98 : Value).ownBlock)) (by (with_reducible repeat (first | apply Kd.R_alloc | apply Kd.R_drewN | apply Kd.R_drew)); exact Kd.R_mono HO271.out (fun _ hk => ⟨⟨hk.1.1.1.2, ⟨hk.1.1.2, hk.1.2⟩⟩, hk.2⟩)) hg hat); have n5_ := Aside0.mk (Kd.R_after (ok := (fun k_ => some k_ ≠ (v230 : Value).ownBlock ∧ some k_ ≠ (v266 : Value).ownBlock ∧ some k_ ≠ (.slice Ao96 t268.length co96 : Value).ownBlock)) (by (with_reducible repeat (first | apply Kd.R_alloc | apply Kd.R_drewN | apply Kd.R_drew)); exact Kd.R_mono HO275.out (fun _ hk => ⟨⟨hk.1.1.1.2, ⟨hk.1.1.2, hk.1.2⟩⟩, hk.2⟩)) hg hat); have n6_ := Aside0.mk (hb); have n7_ := Aside0.mk (ho); clear HO_6; clear HO_7; clear HO263; clear HO267; clear HO271; clear HO275; clear HB; clear HO281; have HO_6 := n0_; have HO_7 := n1_; have HO263 := n2_; have HO267 := n3_; have HO271 := n4_; have HO275 := n5_; have HB := n6_; have HO284 := n7_; clear n0_ n1_ n2_ n3_ n4_ n5_ n6_ n7_; clear ho hb hg hat; obtain ⟨Ao99, co99, eo99⟩ := Kd.R_slice HO267.out; subst eo99; obtain ⟨Ao100, co100, eo100⟩ := Kd.R_slice HO284.out; subst eo100) | (go_at_call 20; (with_reducible refine (massiflaw04_same.calls kj31 _ _ t264 _ _ y282 t285 _ ?side1 ?side2 ?side3 ?side4 A88.out).mono ?_); (case side1 => repeat (first | exact (Kd.R_reads' HO267.out).2.2 | (with_reducible refine Kd.C_alloc ?_ _) | (with_reducible refine Kd.C_drewN ?_ _) | (with_reducible refine Kd.C_drew ?_))); (case side2 => exact (Kd.R_reads' HO267.out).2.1); (case side3 => repeat (first | exact (Kd.R_reads' HO284.out).2.2 | (with_reducible refine Kd.C_alloc ?_ _) | (with_reducible refine Kd.C_drewN ?_ _) | (with_reducible refine Kd.C_drew ?_))); (case side4 => exact (Kd.R_reads' HO284.out).2.1); rintro e w' ⟨rfl, ⟨nd, rfl⟩⟩))
                                            go_ret
                                            exact ⟨by first | rfl | (simp [errW_none, errW_some] <;> rfl) | (simp only [← hji74]; first | rfl | (simp [errW_none, errW_some] <;> rfl)) | (simp [*, errW_none, errW_some] <;> rfl), by repeat (first | (with_reducible first | exact HB.out | apply below_alloc | apply pw_below_drewN | apply below_drew1) | exact HB.out)⟩
                                          · rw [if_neg c87] at H
                                            exact absurd H (by simp)
                                        · rw [if_neg c86] at H
                                          exact absurd H (by simp)
                                      · rw [if_neg c85] at H
                                        have c85b0 : (t278 == 0) = false := beq_eq_false_iff_ne.mpr c85
                                        have c85b1 : (t278 != 0) = true := bne_iff_ne.mpr c85
                                        obtain rfl := Option.some.inj H
                                        have p260 : 0 ≤ ((ji74) : Int) := of_decide_eq_true (by first | (with_reducible assumption) | assumption)
                                        have q260 : (ji74) < (t225.length : Int) := of_decide_eq_true (by first | (with_reducible assumption) | assumption)
                                        obtain ⟨ad260, e260, hx260_0⟩ := Kd.at_int (Kd.R_reads' HO_6.out).2.2 (ji74) p260 q260
                                        cases e260
                                        replace p260 := eq_true p260
                                        replace q260 := eq_true q260
                                        go_wp2_with (first | ((with_reducible refine gate_dst (N := 180) rfl ?_); (try (refine gate_guard (by rfl) ?_; dsimp only)); refine Kd.R_lit (Kd.int .u64) _ 22 ?hg (N := 180) ?hd (xs := ([rd t225 (ji74)] : List Int)) (inner := [.int .u64 (rd t225 (ji74))]) (ok := fun _ => True) (okp := fun _ => True) ?hr ?hp (fun _ hk => hk) trivial (Below.refl _ _) (Nat.le_refl _) (by simp) ?_; (case hd => rfl); (case hg => rfl); (case hr => first | (go_simp; done) | (go_simp; rfl)); (case hp => exact (Reps.one (show Kd.M (Kd.int .u64) _ _ _ (rd t225 (ji74)) [.int .u64 (rd t225 (ji74))] from rfl) (Reps.none _ _))); intro v262 w101 ho102 hb hg_ hnew_; clear hg_ hnew_; (first | rw [← Ny261.out] at ho102 | (simp only [Int.reduceToNat] at ho102; rw [← Ny261.out] at ho102)); have n0_ := Aside0.mk (Kd.R_elder' (by (with_reducible repeat (first | apply Kd.R_alloc | apply Kd.R_drewN | apply Kd.R_drew)); exact HO_6.out) (Kd.R_base ho102) hb); have n1_ := Aside0.mk (Kd.R_below (by (with_reducible repeat (first | apply Kd.R_alloc | apply Kd.R_drewN | apply Kd.R_drew)); exact HO_7.out) hb); have n2_ := Aside0.mk (Kd.R_lower (Kd.R_new' ho102 (Kd.R_lt (by (with_reducible repeat (first | apply Kd.R_alloc | apply Kd.R_drewN | apply Kd.R_drew)); exact HO_6.out))) (below_size (by repeat (first | (with_reducible first | exact HB.out | apply below_alloc | apply pw_below_drewN | apply below_drew1) | exact HB.out)))); have n3_ := Aside0.mk (below_step (by repeat (first | (with_reducible first | exact HB.out | apply below_alloc | apply pw_below_drewN | apply below_drew1) | exact HB.out)) hb); clear HO_6; clear HO_7; clear HB; have HO_6 := n0_; have HO_7 := n1_; have HO263 := n2_; have HB := n3_; clear n0_ n1_ n2_ n3_; clear hb ho102; obtain ⟨Ao103, co103, eo103⟩ := Kd.R_slice HO263.out; subst eo103) | ((with_reducible refine gate_callee (f := 23) rfl ?_); refine goesL_ (some 181) rfl rfl Try.func23 (by kernel_rfl) rfl #[.int .u64 (IntKind.u64.wrap (t215 + 1)), .slice Ao103 y261.length co103] rfl (by (try simp only [List.map_toArray, List.map_cons, List.map_nil]); first | done | rfl | (simp only [List.length_drop, List.length_take]; rfl)) ?_; (with_reducible refine (cover_Rest.calls (IntKind.u64.wrap (t215 + 1)) _ _ y261 t264 t265 _ ?side1 ?side2 A77.out).mono ?_); (case side1 => repeat (first | exact (Kd.R_reads' HO263.out).2.2 | (with_reducible refine Kd.C_alloc ?_ _) | (with_reducible refine Kd.C_drewN ?_ _) | (with_reducible refine Kd.C_drew ?_))); (case side2 => exact (Kd.R_reads' HO263.out).2.1); rintro e w104 ⟨v266, rfl, ho0, hb⟩; refine ⟨_, rfl, ?_⟩; have n0_ := Aside0.mk (Kd.R_below (by (with_reducible repeat (first | apply Kd.R_alloc | apply Kd.R_drewN | apply Kd.R_drew)); exact HO_6.out) hb); have n1_ := Aside0.mk (Kd.R_elder' (by (with_reducible repeat (first | apply Kd.R_alloc | apply Kd.R_drewN | apply Kd.R_drew)); exact HO_7.out) (Kd.R_base ho0) hb); have n2_ := Aside0.mk (Kd.R_below (by (with_reducible repeat (first | apply Kd.R_alloc | apply Kd.R_drewN | apply Kd.R_drew)); exact HO263.out) hb); have n3_ := Aside0.mk (Kd.R_lower (Kd.R_new' ho0 (Kd.R_lt (by (with_reducible repeat (first | apply Kd.R_alloc | apply Kd.R_drewN | apply Kd.R_drew)); exact HO_7.out))) (below_size (by repeat (first | (with_reducible first | exact HB.out | apply below_alloc | apply pw_below_drewN | apply below_drew1) | exact HB.out)))); have n4_ := Aside0.mk (below_step (by repeat (first | (with_reducible first | exact HB.out | apply below_alloc | apply pw_below_drewN | apply below_drew1) | exact HB.out)) hb); clear HO_6; clear HO_7; clear HO263; clear HB; have HO_6 := n0_; have HO_7 := n1_; have HO263 := n2_; have HO267 := n3_; have HB := n4_; clear n0_ n1_ n2_ n3_ n4_; (try clear hb); (try clear hb2); (try clear hk); (try clear hi); (try clear ho0)) | ((with_reducible refine gate_callee (f := 17) rfl ?_); refine goesL_ (some 187) rfl rfl Try.func17 (by kernel_rfl) rfl #[.int .u64 0, .int .u64 (rd t225 (ji74)), .int .u64 (IntKind.u64.wrap (t215 + 1))] rfl (by (try simp only [List.map_toArray, List.map_cons, List.map_nil]); first | done | (simp only [hji74]; rfl) | rfl | (simp only [List.length_drop, List.length_take]; rfl)) ?_; (with_reducible refine (cover_Range.calls 0 (rd t225 (ji74)) (IntKind.u64.wrap (t215 + 1)) t268 t269 _ A78.out).mono ?_); rintro e w105 ⟨v270, rfl, ho0, hb⟩; refine ⟨_, rfl, ?_⟩; have n0_ := Aside0.mk (Kd.R_below (by (with_reducible repeat (first | apply Kd.R_alloc | apply Kd.R_drewN | apply Kd.R_drew)); exact HO_6.out) hb); have n1_ := Aside0.mk (Kd.R_elder' (by (with_reducible repeat (first | apply Kd.R_alloc | apply Kd.R_drewN | apply Kd.R_drew)); exact HO_7.out) (Kd.R_base ho0) hb); have n2_ := Aside0.mk (Kd.R_below (by (with_reducible repeat (first | apply Kd.R_alloc | apply Kd.R_drewN | apply Kd.R_drew)); exact HO263.out) hb); have n3_ := Aside0.mk (Kd.R_elder' (by (with_reducible repeat (first | apply Kd.R_alloc | apply Kd.R_drewN | apply Kd.R_drew)); exact HO267.out) (Kd.R_base ho0) hb); have n4_ := Aside0.mk (Kd.R_lower (Kd.R_new' (Kd.R_new' ho0 (Kd.R_lt (by (with_reducible repeat (first | apply Kd.R_alloc | apply Kd.R_drewN | apply Kd.R_drew)); exact HO_7.out))) (Kd.R_lt (by (with_reducible repeat (first | apply Kd.R_alloc | apply Kd.R_drewN | apply Kd.R_drew)); exact HO267.out))) (below_size (by repeat (first | (with_reducible first | exact HB.out | apply below_alloc | apply pw_below_drewN | apply below_drew1) | exact HB.out)))); have n5_ := Aside0.mk (below_step (by repeat (first | (with_reducible first | exact HB.out | apply below_alloc | apply pw_below_drewN | apply below_drew1) | exact HB.out)) hb); clear HO_6; clear HO_7; clear HO263; clear HO267; clear HB; have HO_6 := n0_; have HO_7 := n1_; have HO263 := n2_; have HO267 := n3_; have HO271 := n4_; have HB := n5_; clear n0_ n1_ n2_ n3_ n4_ n5_; (try clear hb); (try clear hb2); (try clear hk); (try clear hi); (try clear ho0)) | ((with_reducible refine gate_callee (f := 17) rfl ?_); refine goesL_ (some 195) rfl rfl Try.func17 (by kernel_rfl) rfl #[.int .u64 (IntKind.u64.wrap ((rd t225 (ji74)) + 1)), .int .u64 (IntKind.u64.wrap (t215 + 1)), .int .u64 (IntKind.u64.wrap (t215 + 1))] rfl (by (try simp only [List.map_toArray, List.map_cons, List.map_nil]); first | done | (simp only [hji74]; rfl) | rfl | (simp only [List.length_drop, List.length_take]; rfl)) ?_; (with_reducible refine (cover_Range.calls (IntKind.u64.wrap ((rd t225 (ji74)) + 1)) (IntKind.u64.wrap (t215 + 1)) (IntKind.u64.wrap (t215 + 1)) t272 t273 _ A79.out).mono ?_); rintro e w106 ⟨v274, rfl, ho0, hb⟩; refine ⟨_, rfl, ?_⟩; have n0_ := Aside0.mk (Kd.R_below (by (with_reducible repeat (first | apply Kd.R_alloc | apply Kd.R_drewN | apply Kd.R_drew)); exact HO_6.out) hb); have n1_ := Aside0.mk (Kd.R_elder' (by (with_reducible repeat (first | apply Kd.R_alloc | apply Kd.R_drewN | apply Kd.R_drew)); exact HO_7.out) (Kd.R_base ho0) hb); have n2_ := Aside0.mk (Kd.R_below (by (with_reducible repeat (first | apply Kd.R_alloc | apply Kd.R_drewN | apply Kd.R_drew)); exact HO263.out) hb); have n3_ := Aside0.mk (Kd.R_elder' (by (with_reducible repeat (first | apply Kd.R_alloc | apply Kd.R_drewN | apply Kd.R_drew)); exact HO267.out) (Kd.R_base ho0) hb); have n4_ := Aside0.mk (Kd.R_elder' (by (with_reducible repeat (first | apply Kd.R_alloc | apply Kd.R_drewN | apply Kd.R_drew)); exact HO271.out) (Kd.R_base ho0) hb); have n5_ := Aside0.mk (Kd.R_lower (Kd.R_new' (Kd.R_new' (Kd.R_new' ho0 (Kd.R_lt (by (with_reducible repeat (first | apply Kd.R_alloc | apply Kd.R_drewN | apply Kd.R_drew)); exact HO_7.out))) (Kd.R_lt (by (with_reducible repeat (first | apply Kd.R_alloc | apply Kd.R_drewN | apply Kd.R_drew)); exact HO267.out))) (Kd.R_lt (by (with_reducible repeat (first | apply Kd.R_alloc | apply Kd.R_drewN | apply Kd.R_drew)); exact HO271.out))) (below_size (by repeat (first | (with_reducible first | exact HB.out | apply below_alloc | apply pw_below_drewN | apply below_drew1) | exact HB.out)))); have n6_ := Aside0.mk (below_step (by repeat (first | (with_reducible first | exact HB.out | apply below_alloc | apply pw_below_drewN | apply below_drew1) | exact HB.out)) hb); clear HO_6; clear HO_7; clear HO263; clear HO267; clear HO271; clear HB; have HO_6 := n0_; have HO_7 := n1_; have HO263 := n2_; have HO267 := n3_; have HO271 := n4_; have HO275 := n5_; have HB := n6_; clear n0_ n1_ n2_ n3_ n4_ n5_ n6_; (try clear hb); (try clear hb2); (try clear hk); (try clear hi); (try clear ho0)) | ((with_reducible refine gate_callee (f := 19) rfl ?_); refine goesL_ (some 199) rfl rfl Try.func19 (by kernel_rfl) rfl #[.int .i64 t265] rfl (by (try simp only [List.map_toArray, List.map_cons, List.map_nil]); first | done | rfl | (simp only [List.length_drop, List.length_take]; rfl)) ?_; (with_reducible refine (massiflaw04_num.calls t265 t276 _ A80.out).mono ?_); rintro e w' ⟨rfl, ⟨nd, rfl⟩⟩; refine ⟨_, rfl, ?_⟩) | (go_at_call 19; (with_reducible refine (massiflaw04_num.calls t269 t277 _ A82.out).mono ?_); rintro e w' ⟨rfl, ⟨nd, rfl⟩⟩) | (go_at_call 19; (with_reducible refine (massiflaw04_num.calls t273 t278 _ A84.out).mono ?_); rintro e w' ⟨rfl, ⟨nd, rfl⟩⟩))
                                        go_ret
                                        exact ⟨by first | rfl | (simp [errW_none, errW_some] <;> rfl) | (simp only [← hji74]; first | rfl | (simp [errW_none, errW_some] <;> rfl)) | (simp [*, errW_none, errW_some] <;> rfl), by repeat (first | (with_reducible first | exact HB.out | apply below_alloc | apply pw_below_drewN | apply below_drew1) | exact HB.out)⟩
                                    · rw [if_neg c83] at H
                                      have c83b0 : (t277 == 0) = false := beq_eq_false_iff_ne.mpr c83
                                      have c83b1 : (t277 != 0) = true := bne_iff_ne.mpr c83
                                      obtain rfl := Option.some.inj H
                                      have p260 : 0 ≤ ((ji74) : Int) := of_decide_eq_true (by first | (with_reducible assumption) | assumption)
                                      have q260 : (ji74) < (t225.length : Int) := of_decide_eq_true (by first | (with_reducible assumption) | assumption)
                                      obtain ⟨ad260, e260, hx260_0⟩ := Kd.at_int (Kd.R_reads' HO_6.out).2.2 (ji74) p260 q260
                                      cases e260
                                      replace p260 := eq_true p260
                                      replace q260 := eq_true q260
                                      go_wp2_with (first | ((with_reducible refine gate_dst (N := 180) rfl ?_); (try (refine gate_guard (by rfl) ?_; dsimp only)); refine Kd.R_lit (Kd.int .u64) _ 22 ?hg (N := 180) ?hd (xs := ([rd t225 (ji74)] : List Int)) (inner := [.int .u64 (rd t225 (ji74))]) (ok := fun _ => True) (okp := fun _ => True) ?hr ?hp (fun _ hk => hk) trivial (Below.refl _ _) (Nat.le_refl _) (by simp) ?_; (case hd => rfl); (case hg => rfl); (case hr => first | (go_simp; done) | (go_simp; rfl)); (case hp => exact (Reps.one (show Kd.M (Kd.int .u64) _ _ _ (rd t225 (ji74)) [.int .u64 (rd t225 (ji74))] from rfl) (Reps.none _ _))); intro v262 w107 ho108 hb hg_ hnew_; clear hg_ hnew_; (first | rw [← Ny261.out] at ho108 | (simp only [Int.reduceToNat] at ho108; rw [← Ny261.out] at ho108)); have n0_ := Aside0.mk (Kd.R_elder' (by (with_reducible repeat (first | apply Kd.R_alloc | apply Kd.R_drewN | apply Kd.R_drew)); exact HO_6.out) (Kd.R_base ho108) hb); have n1_ := Aside0.mk (Kd.R_below (by (with_reducible repeat (first | apply Kd.R_alloc | apply Kd.R_drewN | apply Kd.R_drew)); exact HO_7.out) hb); have n2_ := Aside0.mk (Kd.R_lower (Kd.R_new' ho108 (Kd.R_lt (by (with_reducible repeat (first | apply Kd.R_alloc | apply Kd.R_drewN | apply Kd.R_drew)); exact HO_6.out))) (below_size (by repeat (first | (with_reducible first | exact HB.out | apply below_alloc | apply pw_below_drewN | apply below_drew1) | exact HB.out)))); have n3_ := Aside0.mk (below_step (by repeat (first | (with_reducible first | exact HB.out | apply below_alloc | apply pw_below_drewN | apply below_drew1) | exact HB.out)) hb); clear HO_6; clear HO_7; clear HB; have HO_6 := n0_; have HO_7 := n1_; have HO263 := n2_; have HB := n3_; clear n0_ n1_ n2_ n3_; clear hb ho108; obtain ⟨Ao109, co109, eo109⟩ := Kd.R_slice HO263.out; subst eo109) | ((with_reducible refine gate_callee (f := 23) rfl ?_); refine goesL_ (some 181) rfl rfl Try.func23 (by kernel_rfl) rfl #[.int .u64 (IntKind.u64.wrap (t215 + 1)), .slice Ao109 y261.length co109] rfl (by (try simp only [List.map_toArray, List.map_cons, List.map_nil]); first | done | rfl | (simp only [List.length_drop, List.length_take]; rfl)) ?_; (with_reducible refine (cover_Rest.calls (IntKind.u64.wrap (t215 + 1)) _ _ y261 t264 t265 _ ?side1 ?side2 A77.out).mono ?_); (case side1 => repeat (first | exact (Kd.R_reads' HO263.out).2.2 | (with_reducible refine Kd.C_alloc ?_ _) | (with_reducible refine Kd.C_drewN ?_ _) | (with_reducible refine Kd.C_drew ?_))); (case side2 => exact (Kd.R_reads' HO263.out).2.1); rintro e w110 ⟨v266, rfl, ho0, hb⟩; refine ⟨_, rfl, ?_⟩; have n0_ := Aside0.mk (Kd.R_below (by (with_reducible repeat (first | apply Kd.R_alloc | apply Kd.R_drewN | apply Kd.R_drew)); exact HO_6.out) hb); have n1_ := Aside0.mk (Kd.R_elder' (by (with_reducible repeat (first | apply Kd.R_alloc | apply Kd.R_drewN | apply Kd.R_drew)); exact HO_7.out) (Kd.R_base ho0) hb); have n2_ := Aside0.mk (Kd.R_below (by (with_reducible repeat (first | apply Kd.R_alloc | apply Kd.R_drewN | apply Kd.R_drew)); exact HO263.out) hb); have n3_ := Aside0.mk (Kd.R_lower (Kd.R_new' ho0 (Kd.R_lt (by (with_reducible repeat (first | apply Kd.R_alloc | apply Kd.R_drewN | apply Kd.R_drew)); exact HO_7.out))) (below_size (by repeat (first | (with_reducible first | exact HB.out | apply below_alloc | apply pw_below_drewN | apply below_drew1) | exact HB.out)))); have n4_ := Aside0.mk (below_step (by repeat (first | (with_reducible first | exact HB.out | apply below_alloc | apply pw_below_drewN | apply below_drew1) | exact HB.out)) hb); clear HO_6; clear HO_7; clear HO263; clear HB; have HO_6 := n0_; have HO_7 := n1_; have HO263 := n2_; have HO267 := n3_; have HB := n4_; clear n0_ n1_ n2_ n3_ n4_; (try clear hb); (try clear hb2); (try clear hk); (try clear hi); (try clear ho0)) | ((with_reducible refine gate_callee (f := 17) rfl ?_); refine goesL_ (some 187) rfl rfl Try.func17 (by kernel_rfl) rfl #[.int .u64 0, .int .u64 (rd t225 (ji74)), .int .u64 (IntKind.u64.wrap (t215 + 1))] rfl (by (try simp only [List.map_toArray, List.map_cons, List.map_nil]); first | done | (simp only [hji74]; rfl) | rfl | (simp only [List.length_drop, List.length_take]; rfl)) ?_; (with_reducible refine (cover_Range.calls 0 (rd t225 (ji74)) (IntKind.u64.wrap (t215 + 1)) t268 t269 _ A78.out).mono ?_); rintro e w111 ⟨v270, rfl, ho0, hb⟩; refine ⟨_, rfl, ?_⟩; have n0_ := Aside0.mk (Kd.R_below (by (with_reducible repeat (first | apply Kd.R_alloc | apply Kd.R_drewN | apply Kd.R_drew)); exact HO_6.out) hb); have n1_ := Aside0.mk (Kd.R_elder' (by (with_reducible repeat (first | apply Kd.R_alloc | apply Kd.R_drewN | apply Kd.R_drew)); exact HO_7.out) (Kd.R_base ho0) hb); have n2_ := Aside0.mk (Kd.R_below (by (with_reducible repeat (first | apply Kd.R_alloc | apply Kd.R_drewN | apply Kd.R_drew)); exact HO263.out) hb); have n3_ := Aside0.mk (Kd.R_elder' (by (with_reducible repeat (first | apply Kd.R_alloc | apply Kd.R_drewN | apply Kd.R_drew)); exact HO267.out) (Kd.R_base ho0) hb); have n4_ := Aside0.mk (Kd.R_lower (Kd.R_new' (Kd.R_new' ho0 (Kd.R_lt (by (with_reducible repeat (first | apply Kd.R_alloc | apply Kd.R_drewN | apply Kd.R_drew)); exact HO_7.out))) (Kd.R_lt (by (with_reducible repeat (first | apply Kd.R_alloc | apply Kd.R_drewN | apply Kd.R_drew)); exact HO267.out))) (below_size (by repeat (first | (with_reducible first | exact HB.out | apply below_alloc | apply pw_below_drewN | apply below_drew1) | exact HB.out)))); have n5_ := Aside0.mk (below_step (by repeat (first | (with_reducible first | exact HB.out | apply below_alloc | apply pw_below_drewN | apply below_drew1) | exact HB.out)) hb); clear HO_6; clear HO_7; clear HO263; clear HO267; clear HB; have HO_6 := n0_; have HO_7 := n1_; have HO263 := n2_; have HO267 := n3_; have HO271 := n4_; have HB := n5_; clear n0_ n1_ n2_ n3_ n4_ n5_; (try clear hb); (try clear hb2); (try clear hk); (try clear hi); (try clear ho0)) | ((with_reducible refine gate_callee (f := 17) rfl ?_); refine goesL_ (some 195) rfl rfl Try.func17 (by kernel_rfl) rfl #[.int .u64 (IntKind.u64.wrap ((rd t225 (ji74)) + 1)), .int .u64 (IntKind.u64.wrap (t215 + 1)), .int .u64 (IntKind.u64.wrap (t215 + 1))] rfl (by (try simp only [List.map_toArray, List.map_cons, List.map_nil]); first | done | (simp only [hji74]; rfl) | rfl | (simp only [List.length_drop, List.length_take]; rfl)) ?_; (with_reducible refine (cover_Range.calls (IntKind.u64.wrap ((rd t225 (ji74)) + 1)) (IntKind.u64.wrap (t215 + 1)) (IntKind.u64.wrap (t215 + 1)) t272 t273 _ A79.out).mono ?_); rintro e w112 ⟨v274, rfl, ho0, hb⟩; refine ⟨_, rfl, ?_⟩; have n0_ := Aside0.mk (Kd.R_below (by (with_reducible repeat (first | apply Kd.R_alloc | apply Kd.R_drewN | apply Kd.R_drew)); exact HO_6.out) hb); have n1_ := Aside0.mk (Kd.R_elder' (by (with_reducible repeat (first | apply Kd.R_alloc | apply Kd.R_drewN | apply Kd.R_drew)); exact HO_7.out) (Kd.R_base ho0) hb); have n2_ := Aside0.mk (Kd.R_below (by (with_reducible repeat (first | apply Kd.R_alloc | apply Kd.R_drewN | apply Kd.R_drew)); exact HO263.out) hb); have n3_ := Aside0.mk (Kd.R_elder' (by (with_reducible repeat (first | apply Kd.R_alloc | apply Kd.R_drewN | apply Kd.R_drew)); exact HO267.out) (Kd.R_base ho0) hb); have n4_ := Aside0.mk (Kd.R_elder' (by (with_reducible repeat (first | apply Kd.R_alloc | apply Kd.R_drewN | apply Kd.R_drew)); exact HO271.out) (Kd.R_base ho0) hb); have n5_ := Aside0.mk (Kd.R_lower (Kd.R_new' (Kd.R_new' (Kd.R_new' ho0 (Kd.R_lt (by (with_reducible repeat (first | apply Kd.R_alloc | apply Kd.R_drewN | apply Kd.R_drew)); exact HO_7.out))) (Kd.R_lt (by (with_reducible repeat (first | apply Kd.R_alloc | apply Kd.R_drewN | apply Kd.R_drew)); exact HO267.out))) (Kd.R_lt (by (with_reducible repeat (first | apply Kd.R_alloc | apply Kd.R_drewN | apply Kd.R_drew)); exact HO271.out))) (below_size (by repeat (first | (with_reducible first | exact HB.out | apply below_alloc | apply pw_below_drewN | apply below_drew1) | exact HB.out)))); have n6_ := Aside0.mk (below_step (by repeat (first | (with_reducible first | exact HB.out | apply below_alloc | apply pw_below_drewN | apply below_drew1) | exact HB.out)) hb); clear HO_6; clear HO_7; clear HO263; clear HO267; clear HO271; clear HB; have HO_6 := n0_; have HO_7 := n1_; have HO263 := n2_; have HO267 := n3_; have HO271 := n4_; have HO275 := n5_; have HB := n6_; clear n0_ n1_ n2_ n3_ n4_ n5_ n6_; (try clear hb); (try clear hb2); (try clear hk); (try clear hi); (try clear ho0)) | ((with_reducible refine gate_callee (f := 19) rfl ?_); refine goesL_ (some 199) rfl rfl Try.func19 (by kernel_rfl) rfl #[.int .i64 t265] rfl (by (try simp only [List.map_toArray, List.map_cons, List.map_nil]); first | done | rfl | (simp only [List.length_drop, List.length_take]; rfl)) ?_; (with_reducible refine (massiflaw04_num.calls t265 t276 _ A80.out).mono ?_); rintro e w' ⟨rfl, ⟨nd, rfl⟩⟩; refine ⟨_, rfl, ?_⟩) | (go_at_call 19; (with_reducible refine (massiflaw04_num.calls t269 t277 _ A82.out).mono ?_); rintro e w' ⟨rfl, ⟨nd, rfl⟩⟩))
                                      go_ret
                                      exact ⟨by first | rfl | (simp [errW_none, errW_some] <;> rfl) | (simp only [← hji74]; first | rfl | (simp [errW_none, errW_some] <;> rfl)) | (simp [*, errW_none, errW_some] <;> rfl), by repeat (first | (with_reducible first | exact HB.out | apply below_alloc | apply pw_below_drewN | apply below_drew1) | exact HB.out)⟩
                                  · rw [if_neg c81] at H
                                    have c81b0 : (t276 == 0) = false := beq_eq_false_iff_ne.mpr c81
                                    have c81b1 : (t276 != 0) = true := bne_iff_ne.mpr c81
                                    obtain rfl := Option.some.inj H
                                    have p260 : 0 ≤ ((ji74) : Int) := of_decide_eq_true (by first | (with_reducible assumption) | assumption)
                                    have q260 : (ji74) < (t225.length : Int) := of_decide_eq_true (by first | (with_reducible assumption) | assumption)
                                    obtain ⟨ad260, e260, hx260_0⟩ := Kd.at_int (Kd.R_reads' HO_6.out).2.2 (ji74) p260 q260
                                    cases e260
                                    replace p260 := eq_true p260
                                    replace q260 := eq_true q260
                                    go_wp2_with (first | ((with_reducible refine gate_dst (N := 180) rfl ?_); (try (refine gate_guard (by rfl) ?_; dsimp only)); refine Kd.R_lit (Kd.int .u64) _ 22 ?hg (N := 180) ?hd (xs := ([rd t225 (ji74)] : List Int)) (inner := [.int .u64 (rd t225 (ji74))]) (ok := fun _ => True) (okp := fun _ => True) ?hr ?hp (fun _ hk => hk) trivial (Below.refl _ _) (Nat.le_refl _) (by simp) ?_; (case hd => rfl); (case hg => rfl); (case hr => first | (go_simp; done) | (go_simp; rfl)); (case hp => exact (Reps.one (show Kd.M (Kd.int .u64) _ _ _ (rd t225 (ji74)) [.int .u64 (rd t225 (ji74))] from rfl) (Reps.none _ _))); intro v262 w113 ho114 hb hg_ hnew_; clear hg_ hnew_; (first | rw [← Ny261.out] at ho114 | (simp only [Int.reduceToNat] at ho114; rw [← Ny261.out] at ho114)); have n0_ := Aside0.mk (Kd.R_elder' (by (with_reducible repeat (first | apply Kd.R_alloc | apply Kd.R_drewN | apply Kd.R_drew)); exact HO_6.out) (Kd.R_base ho114) hb); have n1_ := Aside0.mk (Kd.R_below (by (with_reducible repeat (first | apply Kd.R_alloc | apply Kd.R_drewN | apply Kd.R_drew)); exact HO_7.out) hb); have n2_ := Aside0.mk (Kd.R_lower (Kd.R_new' ho114 (Kd.R_lt (by (with_reducible repeat (first | apply Kd.R_alloc | apply Kd.R_drewN | apply Kd.R_drew)); exact HO_6.out))) (below_size (by repeat (first | (with_reducible first | exact HB.out | apply below_alloc | apply pw_below_drewN | apply below_drew1) | exact HB.out)))); have n3_ := Aside0.mk (below_step (by repeat (first | (with_reducible first | exact HB.out | apply below_alloc | apply pw_below_drewN | apply below_drew1) | exact HB.out)) hb); clear HO_6; clear HO_7; clear HB; have HO_6 := n0_; have HO_7 := n1_; have HO263 := n2_; have HB := n3_; clear n0_ n1_ n2_ n3_; clear hb ho114; obtain ⟨Ao115, co115, eo115⟩ := Kd.R_slice HO263.out; subst eo115) | ((with_reducible refine gate_callee (f := 23) rfl ?_); refine goesL_ (some 181) rfl rfl Try.func23 (by kernel_rfl) rfl #[.int .u64 (IntKind.u64.wrap (t215 + 1)), .slice Ao115 y261.length co115] rfl (by (try simp only [List.map_toArray, List.map_cons, List.map_nil]); first | done | rfl | (simp only [List.length_drop, List.length_take]; rfl)) ?_; (with_reducible refine (cover_Rest.calls (IntKind.u64.wrap (t215 + 1)) _ _ y261 t264 t265 _ ?side1 ?side2 A77.out).mono ?_); (case side1 => repeat (first | exact (Kd.R_reads' HO263.out).2.2 | (with_reducible refine Kd.C_alloc ?_ _) | (with_reducible refine Kd.C_drewN ?_ _) | (with_reducible refine Kd.C_drew ?_))); (case side2 => exact (Kd.R_reads' HO263.out).2.1); rintro e w116 ⟨v266, rfl, ho0, hb⟩; refine ⟨_, rfl, ?_⟩; have n0_ := Aside0.mk (Kd.R_below (by (with_reducible repeat (first | apply Kd.R_alloc | apply Kd.R_drewN | apply Kd.R_drew)); exact HO_6.out) hb); have n1_ := Aside0.mk (Kd.R_elder' (by (with_reducible repeat (first | apply Kd.R_alloc | apply Kd.R_drewN | apply Kd.R_drew)); exact HO_7.out) (Kd.R_base ho0) hb); have n2_ := Aside0.mk (Kd.R_below (by (with_reducible repeat (first | apply Kd.R_alloc | apply Kd.R_drewN | apply Kd.R_drew)); exact HO263.out) hb); have n3_ := Aside0.mk (Kd.R_lower (Kd.R_new' ho0 (Kd.R_lt (by (with_reducible repeat (first | apply Kd.R_alloc | apply Kd.R_drewN | apply Kd.R_drew)); exact HO_7.out))) (below_size (by repeat (first | (with_reducible first | exact HB.out | apply below_alloc | apply pw_below_drewN | apply below_drew1) | exact HB.out)))); have n4_ := Aside0.mk (below_step (by repeat (first | (with_reducible first | exact HB.out | apply below_alloc | apply pw_below_drewN | apply below_drew1) | exact HB.out)) hb); clear HO_6; clear HO_7; clear HO263; clear HB; have HO_6 := n0_; have HO_7 := n1_; have HO263 := n2_; have HO267 := n3_; have HB := n4_; clear n0_ n1_ n2_ n3_ n4_; (try clear hb); (try clear hb2); (try clear hk); (try clear hi); (try clear ho0)) | ((with_reducible refine gate_callee (f := 17) rfl ?_); refine goesL_ (some 187) rfl rfl Try.func17 (by kernel_rfl) rfl #[.int .u64 0, .int .u64 (rd t225 (ji74)), .int .u64 (IntKind.u64.wrap (t215 + 1))] rfl (by (try simp only [List.map_toArray, List.map_cons, List.map_nil]); first | done | (simp only [hji74]; rfl) | rfl | (simp only [List.length_drop, List.length_take]; rfl)) ?_; (with_reducible refine (cover_Range.calls 0 (rd t225 (ji74)) (IntKind.u64.wrap (t215 + 1)) t268 t269 _ A78.out).mono ?_); rintro e w117 ⟨v270, rfl, ho0, hb⟩; refine ⟨_, rfl, ?_⟩; have n0_ := Aside0.mk (Kd.R_below (by (with_reducible repeat (first | apply Kd.R_alloc | apply Kd.R_drewN | apply Kd.R_drew)); exact HO_6.out) hb); have n1_ := Aside0.mk (Kd.R_elder' (by (with_reducible repeat (first | apply Kd.R_alloc | apply Kd.R_drewN | apply Kd.R_drew)); exact HO_7.out) (Kd.R_base ho0) hb); have n2_ := Aside0.mk (Kd.R_below (by (with_reducible repeat (first | apply Kd.R_alloc | apply Kd.R_drewN | apply Kd.R_drew)); exact HO263.out) hb); have n3_ := Aside0.mk (Kd.R_elder' (by (with_reducible repeat (first | apply Kd.R_alloc | apply Kd.R_drewN | apply Kd.R_drew)); exact HO267.out) (Kd.R_base ho0) hb); have n4_ := Aside0.mk (Kd.R_lower (Kd.R_new' (Kd.R_new' ho0 (Kd.R_lt (by (with_reducible repeat (first | apply Kd.R_alloc | apply Kd.R_drewN | apply Kd.R_drew)); exact HO_7.out))) (Kd.R_lt (by (with_reducible repeat (first | apply Kd.R_alloc | apply Kd.R_drewN | apply Kd.R_drew)); exact HO267.out))) (below_size (by repeat (first | (with_reducible first | exact HB.out | apply below_alloc | apply pw_below_drewN | apply below_drew1) | exact HB.out)))); have n5_ := Aside0.mk (below_step (by repeat (first | (with_reducible first | exact HB.out | apply below_alloc | apply pw_below_drewN | apply below_drew1) | exact HB.out)) hb); clear HO_6; clear HO_7; clear HO263; clear HO267; clear HB; have HO_6 := n0_; have HO_7 := n1_; have HO263 := n2_; have HO267 := n3_; have HO271 := n4_; have HB := n5_; clear n0_ n1_ n2_ n3_ n4_ n5_; (try clear hb); (try clear hb2); (try clear hk); (try clear hi); (try clear ho0)) | ((with_reducible refine gate_callee (f := 17) rfl ?_); refine goesL_ (some 195) rfl rfl Try.func17 (by kernel_rfl) rfl #[.int .u64 (IntKind.u64.wrap ((rd t225 (ji74)) + 1)), .int .u64 (IntKind.u64.wrap (t215 + 1)), .int .u64 (IntKind.u64.wrap (t215 + 1))] rfl (by (try simp only [List.map_toArray, List.map_cons, List.map_nil]); first | done | (simp only [hji74]; rfl) | rfl | (simp only [List.length_drop, List.length_take]; rfl)) ?_; (with_reducible refine (cover_Range.calls (IntKind.u64.wrap ((rd t225 (ji74)) + 1)) (IntKind.u64.wrap (t215 + 1)) (IntKind.u64.wrap (t215 + 1)) t272 t273 _ A79.out).mono ?_); rintro e w118 ⟨v274, rfl, ho0, hb⟩; refine ⟨_, rfl, ?_⟩; have n0_ := Aside0.mk (Kd.R_below (by (with_reducible repeat (first | apply Kd.R_alloc | apply Kd.R_drewN | apply Kd.R_drew)); exact HO_6.out) hb); have n1_ := Aside0.mk (Kd.R_elder' (by (with_reducible repeat (first | apply Kd.R_alloc | apply Kd.R_drewN | apply Kd.R_drew)); exact HO_7.out) (Kd.R_base ho0) hb); have n2_ := Aside0.mk (Kd.R_below (by (with_reducible repeat (first | apply Kd.R_alloc | apply Kd.R_drewN | apply Kd.R_drew)); exact HO263.out) hb); have n3_ := Aside0.mk (Kd.R_elder' (by (with_reducible repeat (first | apply Kd.R_alloc | apply Kd.R_drewN | apply Kd.R_drew)); exact HO267.out) (Kd.R_base ho0) hb); have n4_ := Aside0.mk (Kd.R_elder' (by (with_reducible repeat (first | apply Kd.R_alloc | apply Kd.R_drewN | apply Kd.R_drew)); exact HO271.out) (Kd.R_base ho0) hb); have n5_ := Aside0.mk (Kd.R_lower (Kd.R_new' (Kd.R_new' (Kd.R_new' ho0 (Kd.R_lt (by (with_reducible repeat (first | apply Kd.R_alloc | apply Kd.R_drewN | apply Kd.R_drew)); exact HO_7.out))) (Kd.R_lt (by (with_reducible repeat (first | apply Kd.R_alloc | apply Kd.R_drewN | apply Kd.R_drew)); exact HO267.out))) (Kd.R_lt (by (with_reducible repeat (first | apply Kd.R_alloc | apply Kd.R_drewN | apply Kd.R_drew)); exact HO271.out))) (below_size (by repeat (first | (with_reducible first | exact HB.out | apply below_alloc | apply pw_below_drewN | apply below_drew1) | exact HB.out)))); have n6_ := Aside0.mk (below_step (by repeat (first | (with_reducible first | exact HB.out | apply below_alloc | apply pw_below_drewN | apply below_drew1) | exact HB.out)) hb); clear HO_6; clear HO_7; clear HO263; clear HO267; clear HO271; clear HB; have HO_6 := n0_; have HO_7 := n1_; have HO263 := n2_; have HO267 := n3_; have HO271 := n4_; have HO275 := n5_; have HB := n6_; clear n0_ n1_ n2_ n3_ n4_ n5_ n6_; (try clear hb); (try clear hb2); (try clear hk); (try clear hi); (try clear ho0)) | ((with_reducible refine gate_callee (f := 19) rfl ?_); refine goesL_ (some 199) rfl rfl Try.func19 (by kernel_rfl) rfl #[.int .i64 t265] rfl (by (try simp only [List.map_toArray, List.map_cons, List.map_nil]); first | done | rfl | (simp only [List.length_drop, List.length_take]; rfl)) ?_; (with_reducible refine (massiflaw04_num.calls t265 t276 _ A80.out).mono ?_); rintro e w' ⟨rfl, ⟨nd, rfl⟩⟩; refine ⟨_, rfl, ?_⟩))
                                    go_ret
                                    exact ⟨by first | rfl | (simp [errW_none, errW_some] <;> rfl) | (simp only [← hji74]; first | rfl | (simp [errW_none, errW_some] <;> rfl)) | (simp [*, errW_none, errW_some] <;> rfl), by repeat (first | (with_reducible first | exact HB.out | apply below_alloc | apply pw_below_drewN | apply below_drew1) | exact HB.out)⟩
                              · rw [if_neg c76] at H
                                exact absurd H (by simp)
                          · rw [if_neg c75] at H
                            exact absurd H (by simp)
                      · rw [if_neg c73] at H
                        have c73b0 : (x11_2 == (IntKind.u64.wrap (t215 + 1))) = false := beq_eq_false_iff_ne.mpr c73
                        have c73b1 : (x11_2 != (IntKind.u64.wrap (t215 + 1))) = true := bne_iff_ne.mpr c73
                        obtain rfl := Option.some.inj H
                        go_wp2
                        go_ret
                        exact ⟨by first | rfl | (simp [errW_none, errW_some] <;> rfl) | (simp [*, errW_none, errW_some] <;> rfl), by repeat (first | (with_reducible first | exact HB.out | apply below_alloc | apply pw_below_drewN | apply below_drew1) | exact HB.out)⟩
    · rw [if_neg c7] at H
      exact absurd H (by simp)
  · replace c4 := Bool.eq_false_iff.mpr c4
    subst c4
    have H1 : (some false) = some r := by rw [if_neg (show ¬ (false = true) by decide)] at H; exact H
    clear H
    have H := H1
    clear H1
    obtain rfl := Option.some.inj H
    go_enter Try.func6, Try.ntmps6
    go_wp2_with (first | ((with_reducible refine gate_callee (f := 14) rfl ?_); refine goesL_ (some 24) rfl rfl Try.func14 (by kernel_rfl) rfl #[] rfl (by (try simp only [List.map_toArray, List.map_cons, List.map_nil]); first | done | rfl | (simp only [List.length_drop, List.length_take]; rfl)) ?_; (with_reducible refine (massiflaw04_alive.calls k  false _ A3.out).mono ?_); rintro e w119 ⟨rfl, hb⟩; refine ⟨_, rfl, ?_⟩; have n0_ := Aside0.mk (below_step (by repeat (first | (with_reducible first | exact HB.out | apply below_alloc | apply pw_below_drewN | apply below_drew1) | exact HB.out)) hb); clear HB; have HB := n0_; clear n0_; (try clear hb); (try clear hb2); (try clear hk); (try clear hi)))
    go_ret
    exact ⟨by first | rfl | (simp [errW_none, errW_some] <;> rfl) | (simp [*, errW_none, errW_some] <;> rfl), by repeat (first | (with_reducible first | exact HB.out | apply below_alloc | apply pw_below_drewN | apply below_drew1) | exact HB.out)⟩

/-- THE ONE PURE STATEMENT of massiflaw04_CoverLeaves: yours. -/
def massiflaw04_CoverLeaves.Pure : Prop := ∀ (a0 : Int) (l1 : List Int), (Lit.int .u64 a0).wf = true → l1.length ≤ maxLen → l1.length * 8 ≤ 140737488351232 → (∀ x ∈ l1, (Lit.int .u64 x).wf = true) → ∃ k, massiflaw04_CoverLeaves.f k a0 l1 = some true
theorem massiflaw04_CoverLeaves.walk (P : massiflaw04_CoverLeaves.Pure) (a0 : Int) (a1 : Option Addr) (len1 cap1 : Nat) (z1 : List Int) (w : World) (w0 : (Lit.int .u64 a0).wf = true) (w1 : (a1 = none ∧ len1 = 0 ∧ cap1 = 0 ∧ z1 = []) ∨ ∃ x, a1 = some x ∧ len1 ≤ cap1 ∧ cap1 ≤ maxLen ∧ z1.length = cap1 ∧ (∀ i, i < z1.length → w.cell? (x.add i) = some (.int .u64 (z1.getD i 0))) ∧ ∀ n ∈ z1, (Lit.int .u64 n).wf = true) (y1 : len1 * 8 ≤ 140737488351232) :
    Calls Try.prog 6 #[.int .u64 a0, .slice a1 len1 cap1] w fun e w' => e = .returned (.bool true) ∧ Below w.heap.size w w' := by
  obtain ⟨l1, rfl, hr1, hm1, hw1, hc1⟩ := ReadsInt.ofRowC w1
  obtain ⟨k, h⟩ := P a0 l1 w0 hm1 y1 hw1
  refine (massiflaw04_CoverLeaves.calls k a0 _ _ l1 true w (Kd.C_of_reads (d := (0 : Int)) (h1 := fun _ => rfl) hr1) hc1 h).mono ?_
  rintro e w' ⟨rfl, hd⟩
  exact ⟨rfl, hd⟩

end Go.Proofs.Ytjabaolcphhjkaa.PCoverLeaves
