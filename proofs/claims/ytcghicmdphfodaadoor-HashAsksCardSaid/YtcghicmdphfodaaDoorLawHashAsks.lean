/- The row of massiflaw07.HashAsks: for every input the call answers true and leaves its arguments as they are. No condition. -/
import Derived.Test.YtcghicmdphfodaaDoorRows
import Derived.Test.YtcghicmdphfodaaDoorCards
import Derived.Test.YtcghicmdphfodaaDoorTie
import Derived.Test.YtcghicmdphfodaaDoorGt
import Derived.SevenTiedAt
import Derived.LaidMore
import Derived.Stop.Joined
import Derived.Test.YtcghicmdphfodaaDoorHaLaw
import Derived.Test.YtcghicmdphfodaaDoorLift
import Derived.WalkKit
import Derived.ProofKit
import Derived.OpenShut
import Derived.ShutString
import Derived.ChangeOld
import Derived.Below
import Derived.SizedLaws
import Derived.Lib.SmallJoins
import Derived.Carry
namespace Go.Proofs.YtcghicmdphfodaaDoor.hashAsks
open Go.ChangeShapes Go.WideShapes Go.ChangeAt Go.RowKit Go.Joins
open Go.ChangeMaps (open_string shut_string)
set_option linter.unusedVariables false
theorem own : ownKnob Tryd.prog.godebug = none := by kernel_rfl
theorem laidOut : laidOutB Tryd.prog = true := by kernel_rfl
theorem open_pair {H : Type} {enc : TypeId × Value → H} {P : Program} {W : World} {r : Reach} {base b0 : Nat} {spare : Nat → Bool} {held : Bool} {t e : TypeId} {v : Value} {d : DataW H} {ps : List MemPlace} (hu : P.underlying t = some (.array 2 e)) (he : P.underlying e = some .string) (hc : P.cellsOf e = 1) (hC : P.cellsOf t = 2)
    (hv : Value.okWide P W r b0 t v) (h : DataW.Trod enc P W base spare held t v d ps) : ∃ a b : ByteArray, v = .agg #[.string a, .string b] ∧ d = .agg [.lit (.string a.data.toList), .lit (.string b.data.toList)] := by
  unfold Value.okWide at hv
  rw [hu] at hv
  obtain ⟨cs, rfl, hsz, _⟩ := hv
  obtain ⟨c0, c1, rfl⟩ := array2 (hsz.trans hC)
  obtain ⟨fuel, hf⟩ := h
  obtain ⟨xs, m, rfl, hx, hl, hn, hel⟩ := DataW.trod_array hu hf
  match xs, hn with
  | [x0, x1], _ =>
    have h0 := hel 0 (by decide)
    have h1 := hel 1 (by decide)
    rw [hc] at h0 h1
    obtain ⟨a, e1, e2, _⟩ := DataW.trod_string he (show DataW.trod enc P W base spare held m e [c0] = some x0 from h0)
    obtain ⟨b, e3, e4, _⟩ := DataW.trod_string he (show DataW.trod enc P W base spare held m e [c1] = some x1 from h1)
    injection e1 with e1 _
    injection e3 with e3 _
    refine ⟨a, b, by rw [e1, e3], ?_⟩
    obtain ⟨hx1, _⟩ := Prod.mk.inj hx
    rw [hx1, e2, e4]; rfl
set_option maxRecDepth 100000 in
theorem lifted (os : Os) (started : os.Started) (H : Type) (enc : TypeId × Value → H) :
    ReturnsInHanded {} Tryd.checked os 6 .any (fun w args => (Rows.hashAsksSpec.pre enc Tryd.prog Tryd.f6 [] false w args ∧ laidMetH Tryd.prog Gt.laid2 w) ∧ sizedMet enc Tryd.prog Tryd.f6 (OpenSpec.ofChange Rows.hashAsksSpec) false w args) (Rows.hashAsksSpec.post enc Tryd.prog Tryd.f6 false true false false) := by
  refine returnsInHanded_of_change_and (C := Tryd.checked) (X := fun w _ => laidMetH Tryd.prog Gt.laid2 w) (fun _ _ _ hh h => h.of_heap hh) own started (by kernel_rfl) Tryd.func6
    (ChangeSpec.witness_shaped (enc := enc) (C := Tryd.checked) (os := os) (X := fun w _ => laidMetH Tryd.prog Gt.laid2 w) false (World.doorLaid Tryd.prog 400 os) #[.int .i64 0, .agg #[.string ByteArray.empty, .string ByteArray.empty], .slice none 0 0] 8 rfl (World.shaped_of_RefB (by kernel_rfl) (by kernel_rfl)) (by kernel_rfl) (by kernel_rfl) (by kernel_rfl) (Gt.door_met os _)) ?_
  intro W base args ds gs before hval0 hW _ hsz0 hL _
  have hsz : (DataW.weightsEach Tryd.prog (Tryd.f6.params.toList ++ Rows.hashAsksSpec.plain.varTypes Tryd.prog) (ds ++ gs)).all (· ≤ reachBytes) = true := hsz0
  have hval : ∀ (j : Nat) t v, Tryd.f6.params[j]? = some t → args[j]? = some v → Value.okWide Tryd.prog W .any base t v := hval0
  have hW' := hW
  obtain ⟨p, q, hA0, hV, rfl, hfz, hnd⟩ := hW
  have hA : DataW.TrodAll enc Tryd.prog W 0 (fun _ => true) true Tryd.f6.params.toList args.toList ds p := hA0
  rw [Tryd.params6] at hA hval hsz
  obtain ⟨v0, vs0, d0, ds0, p0, q0, hargs, rfl, rfl, h0, r0⟩ := trodAll_cons hA
  obtain ⟨v1, vs1, d1, ds1, p1, q1, rfl, rfl, rfl, h1, r1⟩ := trodAll_cons r0
  obtain ⟨v2, vs2, d2, ds2, p2, q2, rfl, rfl, rfl, h2, r2⟩ := trodAll_cons r1
  obtain ⟨rfl, rfl, rfl⟩ := trodAll_nil r2
  obtain rfl : args = #[v0, v1, v2] := by cases args; simp_all
  obtain ⟨rfl, rfl⟩ := trodVars_none hV
  obtain ⟨a0, rfl, rfl, rfl, w0⟩ := open_int Tryd.underlying3 (hval 0 3 v0 rfl rfl) h0
  have k1 := h1
  have lt1 : ∀ x ∈ p1, x.block < W.heap.size := by obtain ⟨m, hm⟩ := k1; exact DataW.trod_lt m _ _ _ hm
  obtain ⟨a1, b1, rfl, rfl⟩ := open_pair Tryd.underlying35 (show Tryd.prog.underlying 9 = some .string by kernel_rfl) (by kernel_rfl) (by kernel_rfl) (hval 1 35 v1 rfl rfl) h1
  have w1 : a1.size ≤ 140737488351232 := by
    have z := List.all_eq_true.1 hsz _ (DataW.weights_mem_each (j := 1) (t := 35) rfl rfl a1.data.toList.length (by simp [DataW.weights, DataW.weightsAll, Tryd.underlying35]))
    have z2 := of_decide_eq_true z
    rw [Array.length_toList] at z2
    exact z2
  have x1 : b1.size ≤ 140737488351232 := by
    have z := List.all_eq_true.1 hsz _ (DataW.weights_mem_each (j := 1) (t := 35) rfl rfl b1.data.toList.length (by simp [DataW.weights, DataW.weightsAll, Tryd.underlying35]))
    have z2 := of_decide_eq_true z
    rw [Array.length_toList] at z2
    exact z2
  obtain ⟨a2, len2, cap2, rfl⟩ := okWide_slice Tryd.underlying22 (hval 2 22 v2 rfl rfl)
  have k2 := h2
  have lt2 : ∀ x ∈ p2, x.block < W.heap.size := by obtain ⟨m, hm⟩ := k2; exact DataW.trod_lt m _ _ _ hm
  obtain ⟨l2, rfl, hr2, hc2, w2, x2⟩ := Lift.strs hsz (j := 2) (t := 22) rfl rfl Tryd.underlying22 Tryd.underlying9 (by kernel_rfl) (by kernel_rfl) h2
  clear hA0 hval0 hsz0 hsz
  refine (Ha.asks_calls a0 a1 b1 _ _ l2 W hr2 hc2 w2 x2 w1 x1 (Gt.of_laid hL)).mono fun e W' ⟨he, bel0⟩ => ?_
  have bel : Below W.heap.size W W' := by first | exact bel0 | exact bel0.below
  subst he
  exact ⟨_, rfl, _, _, _, [], _, [], hW', trodAll_mk1 (shut_bool Tryd.underlying4 _), (trodAll_cons_mk (shut_int Tryd.underlying3 w0) (trodAll_cons_mk (Below.trod laidOut (by kernel_rfl) (of_decide_eq_true (by kernel_rfl)) k1 bel lt1) (trodAll_cons_mk (Below.trod laidOut (by kernel_rfl) (of_decide_eq_true (by kernel_rfl)) k2 bel lt2) trodAll_mk0))), rfl, bel.frame _, fun h => by cases h⟩
theorem over : Rows.hashAsksRow.holds Tryd.pinned (OpenSpec.ofChange Rows.hashAsksSpec) :=
  OpenClaim.holds_of_wide 6 Tryd.f6 rfl rfl rfl rfl rfl rfl rfl ⟨rfl, rfl, rfl, rfl, rfl⟩ rfl rfl rfl rfl rfl (by kernel_rfl) Tryd.func6 (by kernel_rfl)
    (of_decide_eq_true (by kernel_rfl)) (by unfold Func.isWrapper; first | (rw [if_pos (by decide +kernel)]; kernel_rfl) | (rw [if_neg (by decide +kernel)]; exact ⟨rfl, rfl⟩))
    (fun os started H enc _ => lifted os started H enc)
theorem proved : Rows.HashAsksSaid := over
theorem card : Rows.HashAsksCardSaid :=
  Claim7.holds_tied_plain_at .later [] [.data, .data] true (true, "b3af6352a7992f8b71e4452a3cee65e1973abede94b6c884c057072303dfce2f") false
    proved (fun _ h => by cases h) (by kernel_rfl) (fun _ h => by cases h) hashAsks_row_tie rfl ⟨rfl, rfl⟩ (by kernel_rfl) rfl
    (fun f fn hf hfn => by
      obtain rfl : f = 6 := Option.some.inj ((show Tryd.prog.funcNamed "massif/massiflaw07.HashAsks" = some 6 by kernel_rfl).symm.trans hf) |>.symm
      obtain rfl : fn = Tryd.f6 := (Option.some.inj (Tryd.func6.symm.trans hfn)).symm
      exact ⟨by kernel_rfl, fun j t ht => by
        rw [Tryd.params6] at ht
        have hm : t ∈ [3, 35, 22] := by simpa using Array.mem_of_getElem? ht
        have hall : ([3, 35, 22].all fun u => !Tryd.prog.wantsStandIn u) = true := by kernel_rfl
        exact (show Tryd.prog.wantsStandIn t = false by simpa using List.all_eq_true.1 hall t hm)⟩)
    (by kernel_rfl)
#print axioms card
end Go.Proofs.YtcghicmdphfodaaDoor.hashAsks
namespace Go.Proofs.YtcghicmdphfodaaDoor
/-- The row, under a short name, for the claim. -/
theorem hashAsks_holds : Rows.HashAsksCardSaid := hashAsks.card
end Go.Proofs.YtcghicmdphfodaaDoor
