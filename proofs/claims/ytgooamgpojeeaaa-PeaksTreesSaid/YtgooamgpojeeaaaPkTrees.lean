/- The walk of massiflaw09.PeaksTrees: it answers true, and what was there stays. -/
import Derived.Test.YtgooamgpojeeaaaPk7
import Derived.Test.YtgooamgpojeeaaaPkOn
import Derived.Test.YtgooamgpojeeaaaPkTr
import Derived.Outline
set_option linter.unusedVariables false
set_option linter.unusedSimpArgs false
namespace Go.Proofs.Ytgooamgpojeeaaa.Pk
open Go.RowKit Go.Proofs.Ytgooamgpojeeaaa.MB Go.Proofs.YtgooamgpojeeaaaW.PrintWords Go.Proofs.YtgooamgpojeeaaaW.PrintLast Go.Proofs.YtgooamgpojeeaaaW.PrintMore Go.Proofs.Ytgooamgpojeeaaa.PPeaksList Go.Proofs.Ytgooamgpojeeaaa.Ob
theorem six (y : Int) : ∃ g0 : Nat, wrap64 ((IntKind.u64.wrap y).tmod 6) = (g0 : Int) ∧ g0 ≤ 5 := by
  have h0 : 0 ≤ IntKind.u64.wrap y := by rw [MB.wrap_u64_is]; omega
  refine ⟨(IntKind.u64.wrap y % 6).toNat, ?_, by omega⟩
  rw [Int.tmod_eq_emod_of_nonneg h0, MB.wrap64_in _ (by omega) (by omega)]; omega
theorem pow_int (g : Nat) (hg : g ≤ 5) : wrap64 ((2 : Int) ^ g) = ((2 ^ g : Nat) : Int) ∧ 2 ^ g ≤ 32 ∧ 0 < 2 ^ g := by
  have h2 : 2 ^ g ≤ 2 ^ 5 := Nat.pow_le_pow_right (by omega) hg
  have h3 : 0 < 2 ^ g := Nat.pow_pos (by omega)
  have e : ((2 : Int) ^ g) = ((2 ^ g : Nat) : Int) := by push_cast; rfl
  exact ⟨by rw [e, MB.wrap64_in _ (by omega) (by omega)], by omega, h3⟩
theorem tests_int (x g n : Nat) (hx : x ≤ 40) (hg : g ≤ 5) : (wrap64 ((2 : Int) ^ g) = 0) = False ∧
    ((x % 2 ^ g = 0 → ((x : Int) % wrap64 (2 ^ g) = 0) = True) ∧ (¬ x % 2 ^ g = 0 → ((x : Int) % wrap64 (2 ^ g) = 0) = False)) ∧
    ((n < x + 2 ^ g → decide ((n : Int) < wrap64 ((x : Int) + wrap64 (2 ^ g))) = true) ∧ (¬ n < x + 2 ^ g → decide ((n : Int) < wrap64 ((x : Int) + wrap64 (2 ^ g))) = false)) ∧ wrap64 ((x : Int) + wrap64 (2 ^ g)) = ((x + 2 ^ g : Nat) : Int) := by
  obtain ⟨h1, h2, h3⟩ := pow_int g hg
  have h4 : wrap64 ((x : Int) + wrap64 (2 ^ g)) = ((x + 2 ^ g : Nat) : Int) := by rw [h1, MB.wrap64_in _ (by omega) (by omega)]; omega
  rw [h4, h1]
  refine ⟨eq_false (by omega), ⟨fun h => eq_true (by rw [← Int.natCast_emod, h]; rfl), fun h => eq_false (by rw [← Int.natCast_emod]; omega)⟩, ⟨fun h => decide_eq_true (by omega), fun h => decide_eq_false (by omega)⟩, rfl⟩
set_option maxHeartbeats 8000000 in
set_option maxRecDepth 100000 in
theorem trees_calls (w : World) (k : Int) (A1 A2 : Option Addr) (c1 c2 : Nat) (l1 : List ByteArray) (l2 : List Int) (h1 : Kd.C Kd.string w A1 l1.length l1) (hc1 : l1.length ≤ c1) (hl1 : l1.length ≤ 140737488351232) (h2 : Kd.C (Kd.int .i64) w A2 l2.length l2) :
    Calls Try.prog 6 #[.int .i64 k, .slice A1 l1.length c1, .slice A2 l2.length c2] w fun e w' => e = .returned (.bool true) ∧ Below w.heap.size w w' := by
  obtain ⟨K, hK, hK1, hK2⟩ := strength_is k
  obtain ⟨l, hfew, hlen, hsz⟩ := few_some l1 hl1
  have HO1 := Aside0.mk (And.intro h1 hc1)
  have HO2 := Aside0.mk h2
  have HKS := Aside0.mk hK
  have HKI := Aside0.mk (And.intro hK1 hK2)
  have HFW := Aside0.mk hfew
  have HLN := Aside0.mk hlen
  have HSZ := Aside0.mk hsz
  have HLL := Aside0.mk h2.2.1
  clear h1 h2 hc1 hl1 hK hK1 hK2 hfew hlen hsz
  go_enter Try.func6, Try.ntmps6
  go_wp2_with (fail)
  refine (alive_calls w).mono ?_
  rintro e w1 ⟨rfl, hb1⟩
  have HB1 := Aside0.mk hb1
  clear hb1
  go_wp2_with (fail)
  refine (massiflaw09_strength.calls k K w1 HKS.out).mono ?_
  rintro e w2 ⟨rfl, hd⟩
  have HB2 := Aside0.mk (below_weaken HB1.out HB1.out.size hd.below)
  clear hd
  go_wp2_with (fail)
  refine (massiflaw09_few.calls 100 A1 c1 l1 40 l w2 (Kd.C_below HO1.out.1 HB2.out) HO1.out.2 HFW.out).mono ?_
  rintro e w3 ⟨v3, rfl, hr3, hb3⟩
  obtain ⟨A3, c3, e3, hcc3, hC3⟩ := Kd.R_reads hr3
  subst e3
  have HC3 := Aside0.mk (And.intro hcc3 hC3)
  have HB3 := Aside0.mk (below_weaken HB2.out HB2.out.size hb3)
  clear hr3 hb3 hcc3 hC3
  go_wp2_with (fail)
  refine (new_ok w3 K HKI.out.1 HKI.out.2).mono ?_
  rintro e w4 ⟨ha, rfl, hle, hr, hb4⟩
  have HRA4 := Aside0.mk hr.bound
  have HB4 := Aside0.mk hb4
  clear hr hle hb4
  go_wp2_with (fail)
  refine (new_ok w4 K HKI.out.1 HKI.out.2).mono ?_
  rintro e w5 ⟨hb, rfl, hle, hr, hb5⟩
  have HRA5 := Aside0.mk (HRA4.out.below hb5)
  have HRB5 := Aside0.mk hr
  have HB5 := Aside0.mk (below_weaken HB4.out HB4.out.size hb5)
  clear hr hle hb5
  go_wp2_with (fail)
  have hl40 : (l.length : Int) ≤ 40 := by have := HLN.out; omega
  go_loopg [11, 12] l.length (fun kq v11 v12 w' => ∃ (at' i : Nat) (oka okb : Nat → Prop), v11 = .int .i64 (at' : Int) ∧ v12 = .int .i64 (i : Int) ∧ Aside0 (at' ≤ l.length ∧ i ≤ at') ∧ Aside0 (l.length ≤ at' + kq) ∧ Aside0 (Rg w' ha oka K at' (MT.pkL K l at' 41)) ∧ Aside0 (Rg w' hb okb K at' (MT.pkL K l at' 41)) ∧ Aside0 ((∀ j, oka j → w3.heap.size ≤ j) ∧ (∀ j, okb j → w3.heap.size ≤ j) ∧ ∀ j, oka j → ¬ okb j) ∧ Aside0 (Below w3.heap.size w3 w'))
  case atStart => exact ⟨0, 0, _, _, by rfl, by rfl, ⟨by omega⟩, ⟨by omega⟩, ⟨by rw [pk_zero]; exact HRA5.out⟩, ⟨by rw [pk_zero]; exact HRB5.out⟩, ⟨fun j (h : w3.heap.size ≤ j ∧ j < w4.heap.size) => h.1, fun j (h : w4.heap.size ≤ j) => Nat.le_trans HB4.out.size h, fun j (h : w3.heap.size ≤ j ∧ j < w4.heap.size) (h2 : w4.heap.size ≤ j) => by have := h.2; omega⟩, HB5⟩
  case round =>
    clear HRA4 HRA5 HRB5 HB5
    obtain ⟨x, i, oka, okb, rfl, rfl, HX, HG, HRA, HRB, HOK, HB⟩ := hrel
    by_cases hgo : x < l.length
    · obtain ⟨k1, rfl⟩ : ∃ k1, gk = k1 + 1 := ⟨gk - 1, by have := HG.out; omega⟩
      have hlt : decide ((x : Int) < (l.length : Int)) = true := decide_eq_true (by omega)
      have hlt' : decide (x < l.length) = true := decide_eq_true hgo
      have HGO := Aside0.mk hgo
      have hi40 : (i : Int) ≤ 40 := by have := HX.out; have := HLN.out; omega
      clear hgo
      by_cases hi : i < l2.length
      · have hit : decide ((i : Int) < (l2.length : Int)) = true := decide_eq_true (by omega)
        have hit' : decide (i < l2.length) = true := decide_eq_true hi
        obtain ⟨ad, e1, hx⟩ := Kd.at_int (Kd.C_below HO2.out HB3.out) (i : Int) (by omega) (by omega)
        cases e1
        rw [Int.toNat_natCast] at hx
        have hx' : wr.cell? (ad.add i) = some (.int .i64 (rd l2 (i : Int))) := (HB.out.cell (World.block_lt_of_cell? _ _ hx)).trans hx
        obtain ⟨y, hy⟩ : ∃ y, y = rd l2 (i : Int) := ⟨_, rfl⟩
        rw [← hy] at hx'
        clear hx hy
        go_wp2_with (fail)
        obtain ⟨g0, hg0, hg05⟩ := six y
        rw [hg0]
        clear hg0
        go_loopg [13] g0 (fun kq v13 w' => ∃ g : Nat, v13 = .int .i64 (g : Int) ∧ Aside0 (g ≤ 5) ∧ Aside0 (kq = g) ∧ w' = wr)
        case atStart => exact ⟨g0, by rfl, ⟨hg05⟩, ⟨rfl⟩, rfl⟩
        case round =>
          obtain ⟨g, rfl, HG5, HGK, rfl⟩ := hrel
          have hg5 : g ≤ 5 := HG5.out
          obtain ⟨z1, z2, z3, z4⟩ := tests_int x g l.length (by have := HX.out; have := HLN.out; omega) hg5
          by_cases hgo2 : 0 < g ∧ (¬ x % 2 ^ g = 0 ∨ l.length < x + 2 ^ g)
          · obtain ⟨hg0, hor⟩ := hgo2
            obtain ⟨k2, rfl⟩ : ∃ k2, gk = k2 + 1 := ⟨gk - 1, by have := HGK.out; omega⟩
            obtain ⟨g', rfl⟩ : ∃ g', g = g' + 1 := ⟨g - 1, by omega⟩
            have t0 : decide (0 < ((g' + 1 : Nat) : Int)) = true := decide_eq_true (by omega)
            have FIN : ∀ m1 : (((x : Int) % wrap64 (2 ^ (g' + 1)) = 0) = False) ∨ ((((x : Int) % wrap64 (2 ^ (g' + 1)) = 0) = True) ∧ decide ((l.length : Int) < wrap64 ((x : Int) + wrap64 (2 ^ (g' + 1)))) = true), True := fun _ => trivial
            have hc : (((x : Int) % wrap64 (2 ^ (g' + 1)) = 0) = False) ∨ ((((x : Int) % wrap64 (2 ^ (g' + 1)) = 0) = True) ∧ decide ((l.length : Int) < wrap64 ((x : Int) + wrap64 (2 ^ (g' + 1)))) = true) := by
              by_cases hmod : x % 2 ^ (g' + 1) = 0
              · exact .inr ⟨z2.1 hmod, z3.1 (by rcases hor with h | h; exact absurd hmod h; exact h)⟩
              · exact .inl (z2.2 hmod)
            have e1 : wrap64 (((g' + 1 : Nat) : Int) - 1) = (g' : Int) := by rw [MB.wrap64_in _ (by omega) (by omega)]; omega
            have HE1 := Aside0.mk e1
            clear hor z2 z3 z4 FIN e1
            rcases hc with m1 | ⟨m1, m2⟩
            all_goals
              go_wp2_with (fail)
              go_roundg k2
              case measure => exact Nat.lt_succ_self _
              case rel => exact ⟨g', by go_num, ⟨by omega⟩, ⟨by have := HGK.out; omega⟩, rfl⟩
          · have hcond : x % 2 ^ g = 0 ∧ x + 2 ^ g ≤ l.length := by
              by_cases hg0 : 0 < g
              · refine ⟨Classical.byContradiction fun h => hgo2 ⟨hg0, .inl h⟩, Classical.byContradiction fun h => hgo2 ⟨hg0, .inr (by omega)⟩⟩
              · have : g = 0 := by omega
                subst this
                refine ⟨Nat.mod_one _, ?_⟩
                have := HGO.out; simp; omega
            have HCO := Aside0.mk hcond
            have m1 := z2.1 hcond.1
            have m1b : ((x : Int) % wrap64 (2 ^ g) != 0) = false := by rw [bne_eq_false_iff_eq]; rw [m1]; trivial
            have m2 := z3.2 (by omega)
            have HZ4 := Aside0.mk z4
            have hends : (decide (0 < (g : Int)) = true ∧ decide (0 < g) = true) ∨ (decide (0 < (g : Int)) = false ∧ decide (0 < g) = false) := by
              by_cases h : 0 < g
              · exact .inl ⟨decide_eq_true (by omega), decide_eq_true h⟩
              · exact .inr ⟨decide_eq_false (by omega), decide_eq_false h⟩
            clear hgo2 hcond z2 z3 z4
            have HGB := Aside0.mk hg5
            have HTR := Aside0.mk (show plain_Tree.f 42 K l (g : Int) (IntKind.u64.wrap ((x : Int) / 2 ^ g)) = some (MT.trB K l (g, x / 2 ^ g), true) from by
              have hp : 0 < 2 ^ g := Nat.pow_pos (by omega)
              have hx := HX.out
              have hln := HLN.out
              have hdle : x / 2 ^ g ≤ x := Nat.div_le_self _ _
              have e : (x : Int) / 2 ^ g = ((x / 2 ^ g : Nat) : Int) := by push_cast; rfl
              rw [e, MB.wrap_u64_cast _ (by omega)]
              refine plain_Tree.is 42 K l g (x / 2 ^ g) (by omega) ?_ (by omega) (fun s hs => by have := HSZ.out s hs; omega) (by omega)
              have hdm := Nat.div_add_mod x (2 ^ g)
              have h1 := HCO.out
              rw [Nat.add_mul, Nat.one_mul, Nat.mul_comm]; omega)
            obtain ⟨T, hT⟩ : ∃ T, T = MT.trB K l (g, x / 2 ^ g) := ⟨_, rfl⟩
            have HOP := Aside0.mk (op_tr K HKI.out.1 HKI.out.2 l x g (by omega) HCO.out.1 (by have := HX.out; have := HLN.out; have := pow_int g hg5; omega))
            rw [← hT] at HTR HOP
            have HPI := Aside0.mk (pk_inv K HKI.out.1 HKI.out.2 l x (by have := HX.out; have := HLN.out; omega))
            clear hT
            rcases hends with ⟨t0, t0'⟩ | ⟨t0, t0'⟩
            all_goals
              go_wp2_with (fail)
              refine (plain_Tree.calls 42 K A3 c3 l _ _ T true wr (Kd.C_below HC3.out.2 HB.out) HC3.out.1 HTR.out).mono ?_
              rintro e w6 ⟨rfl, hb6⟩
              have HRA6 := Aside0.mk (HRA.out.below hb6)
              have HRB6 := Aside0.mk (HRB.out.below hb6)
              have HB6 := Aside0.mk (below_weaken HB.out HB.out.size hb6)
              clear hb6
              go_wp2_with (fail)
              refine (join_calls w6 ha oka K x _ (g : Int) T HRA6.out HPI.out).mono ?_
              rintro e w7 ⟨he, hr, hk⟩
              subst he
              obtain ⟨o1, o2, o3⟩ := HOP.out
              rw [o1]
              rw [o2, o3] at hr
              have HRA7 := Aside0.mk hr
              have HRB7 := Aside0.mk (HRB6.out.kept hk (fun j h h2 => HOK.out.2.2 j h2 h))
              have HB7 := Aside0.mk (Kp.old HB6.out HB6.out.size hk HOK.out.1)
              have HOK7 := Aside0.mk (show (∀ j, ((oka j ∧ j < w6.heap.size) ∨ w6.heap.size ≤ j) → w3.heap.size ≤ j) ∧ (∀ j, (okb j ∧ j < w6.heap.size) → w3.heap.size ≤ j) ∧ ∀ j, ((oka j ∧ j < w6.heap.size) ∨ w6.heap.size ≤ j) → ¬ (okb j ∧ j < w6.heap.size) from by
                have q1 := HB6.out.size
                have q3 := HOK.out
                refine ⟨fun j h => ?_, fun j h => q3.2.1 j h.1, fun j h h2 => ?_⟩
                · rcases h with h | h
                  · exact q3.1 j h.1
                  · omega
                · rcases h with h | h
                  · exact q3.2.2 j h.1 h2.1
                  · omega)
              clear hr hk o1 o2 o3
              go_wp2_with (fail)
              go_loopg [16] (2 ^ g) (fun kq v16 w' => ∃ (j : Nat) (oka okb : Nat → Prop), v16 = .int .i64 (j : Int) ∧ Aside0 (j + kq = 2 ^ g) ∧ Aside0 (Rg w' ha oka K ((x + 2 ^ g : Nat) : Int) (MT.pkL K l (x + 2 ^ g) 41)) ∧ Aside0 (Rg w' hb okb K ((x + j : Nat) : Int) (MT.pkL K l (x + j) 41)) ∧ Aside0 ((∀ j, oka j → w3.heap.size ≤ j) ∧ (∀ j, okb j → w3.heap.size ≤ j) ∧ ∀ j, oka j → ¬ okb j) ∧ Aside0 (Below w3.heap.size w3 w'))
              case atStart => exact ⟨0, _, _, by rfl, ⟨by omega⟩, HRA7, ⟨HRB7.out⟩, HOK7, HB7⟩
              case round =>
                obtain ⟨j, oka2, okb2, rfl, HJ, HRA2, HRB2, HOK2, HB8⟩ := hrel
                cases gk with
                | zero =>
                  have hj : decide ((j : Int) < wrap64 (2 ^ g)) = false := by rw [(pow_int g HGB.out).1]; exact decide_eq_false (by have := HJ.out; omega)
                  obtain ⟨y, hy⟩ : ∃ y : Nat, y = x + 2 ^ g := ⟨_, rfl⟩
                  have ej : x + j = y := by have := HJ.out; omega
                  rw [ej] at HRB2
                  have h4 := HZ4.out
                  rw [← hy] at HRA2 h4
                  have HY := Aside0.mk hy
                  have HYL := Aside0.mk (show y ≤ l.length from by have := HCO.out; omega)
                  have hy40 : (y : Int) ≤ 40 := by have := HYL.out; have := HLN.out; omega
                  have HV9 := Aside0.mk (pk_inv K HKI.out.1 HKI.out.2 l y (by omega))
                  obtain ⟨L9, hL9⟩ : ∃ L9, L9 = MT.pkL K l y 41 := ⟨_, rfl⟩
                  rw [← hL9] at HRA2 HRB2 HV9
                  have HL9 := Aside0.mk hL9
                  have hrt := rootIs HV9.out
                  obtain ⟨D, hD⟩ : ∃ D, D = MH.rootD K y L9 := ⟨_, rfl⟩
                  rw [← hD] at hrt
                  have HRT := Aside0.mk hrt
                  have HLL9 := Aside0.mk (show L9.length ≤ 64 from by have := HV9.out.len; have := MB.ones_le y; omega)
                  have HZY := Aside0.mk h4
                  clear hy ej hL9 hrt hD h4
                  go_wp2_with (fail)
                  rw [HZY.out]
                  refine (size_calls wr ha oka2 K y L9 HRA2.out).mono ?_
                  rintro e w9 ⟨rfl, hb9⟩
                  have HRA9 := Aside0.mk (HRA2.out.below hb9)
                  have HRB9 := Aside0.mk (HRB2.out.below hb9)
                  have HB9 := Aside0.mk (below_weaken HB8.out HB8.out.size hb9)
                  clear hb9
                  go_wp2_with (fail)
                  refine (size_calls w9 hb okb2 K y L9 HRB9.out).mono ?_
                  rintro e w10 ⟨rfl, hb10⟩
                  have HRA10 := Aside0.mk (HRA9.out.below hb10)
                  have HRB10 := Aside0.mk (HRB9.out.below hb10)
                  have HB10 := Aside0.mk (below_weaken HB9.out HB9.out.size hb10)
                  clear hb10
                  go_wp2_with (fail)
                  refine (root_calls 100 w10 ha _ K y L9 D HRA10.out HRT.out).mono ?_
                  rintro e w11 ⟨rfl, hb11⟩
                  have HRA11 := Aside0.mk (HRA10.out.below hb11)
                  have HRB11 := Aside0.mk (HRB10.out.below hb11)
                  have HB11 := Aside0.mk (below_weaken HB10.out HB10.out.size hb11)
                  clear hb11
                  go_wp2_with (fail)
                  refine (root_calls 100 w11 hb _ K y L9 D HRB11.out HRT.out).mono ?_
                  rintro e w12 ⟨rfl, hb12⟩
                  have HRA12 := Aside0.mk (HRA11.out.below hb12)
                  have HRB12 := Aside0.mk (HRB11.out.below hb12)
                  have HB12 := Aside0.mk (below_weaken HB11.out HB11.out.size hb12)
                  clear hb12
                  go_wp2_with (fail)
                  refine (peaks_calls w12 ha _ K y L9 HRA12.out (by have := HLL9.out; omega)).mono ?_
                  rintro e w13 ⟨v13, rfl, hr13, hb13⟩
                  obtain ⟨A13, c13, e13, hcc13, hC13⟩ := Kd.R_reads hr13
                  subst e13
                  have HC13 := Aside0.mk (And.intro hcc13 hC13)
                  have HRA13 := Aside0.mk (HRA12.out.below hb13)
                  have HRB13 := Aside0.mk (HRB12.out.below hb13)
                  have HB13 := Aside0.mk (below_weaken HB12.out HB12.out.size hb13)
                  clear hr13 hcc13 hC13 hb13
                  go_wp2_with (fail)
                  refine (peaks_calls w13 hb _ K y L9 HRB13.out (by have := HLL9.out; omega)).mono ?_
                  rintro e w14 ⟨v14, rfl, hr14, hb14⟩
                  obtain ⟨A14, c14, e14, hcc14, hC14⟩ := Kd.R_reads hr14
                  subst e14
                  have HC14 := Aside0.mk (And.intro hcc14 hC14)
                  have HC134 := Aside0.mk (Kd.C_below HC13.out.2 hb14)
                  have HRA14 := Aside0.mk (HRA13.out.below hb14)
                  have HRB14 := Aside0.mk (HRB13.out.below hb14)
                  have HB14 := Aside0.mk (below_weaken HB13.out HB13.out.size hb14)
                  clear hr14 hcc14 hC14 hb14
                  go_wp2_with (fail)
                  refine (massiflaw09_same.calls 1000 A13 c13 L9 A14 c14 L9 true _ HC134.out HC13.out.1 HC14.out.2 HC14.out.1 (massiflaw09_same.is 1000 L9 (by have := HLL9.out; omega) (by have := HLL9.out; omega))).mono ?_
                  rintro e w15 ⟨rfl, hd15⟩
                  have HRA15 := Aside0.mk (HRA14.out.below hd15.below)
                  have HRB15 := Aside0.mk (HRB14.out.below hd15.below)
                  have HB15 := Aside0.mk (below_weaken HB14.out HB14.out.size hd15.below)
                  clear hd15
                  go_wp2_with (fail)
                  go_roundg k1
                  case measure => exact Nat.lt_succ_self _
                  case rel => exact ⟨y, i + 1, oka2, okb2, by go_num, by go_num, ⟨HYL.out, by have := HX.out; have := HY.out; have := (pow_int g HGB.out).2.2; omega⟩, ⟨by have := HG.out; have := HY.out; have := (pow_int g HGB.out).2.2; omega⟩, ⟨by rw [← HL9.out]; exact HRA15.out⟩, ⟨by rw [← HL9.out]; exact HRB15.out⟩, HOK2, HB15⟩
                | succ k3 =>
                  have hj : decide ((j : Int) < wrap64 (2 ^ g)) = true := by rw [(pow_int g HGB.out).1]; exact decide_eq_true (by have := HJ.out; omega)
                  have hxj : x + j < l.length := by have := HJ.out; have := HCO.out; omega
                  obtain ⟨ad, e1, hx⟩ := Kd.at_string (Kd.C_below HC3.out.2 HB8.out) ((x : Int) + (j : Int)) (by omega) (by omega)
                  cases e1
                  obtain ⟨s, hs⟩ : ∃ s, s = rdOf ByteArray.empty l ((x : Int) + (j : Int)) := ⟨_, rfl⟩
                  rw [← hs, show ((x : Int) + (j : Int)).toNat = x + j from by omega] at hx
                  have hse : s = l[x + j] := by rw [hs]; unfold rdOf; rw [show ((x : Int) + (j : Int)).toNat = x + j from by omega, List.getD_eq_getElem?_getD, List.getElem?_eq_getElem hxj]; rfl
                  have HLF := Aside0.mk (hash_Leaf.is K s (by have := HSZ.out s (by rw [hse]; exact List.getElem_mem _); omega))
                  have HTB := Aside0.mk (show MT.trB K l (0, (x + j) / 2 ^ 0) = MH.lf K s from by rw [Nat.pow_zero, Nat.div_one, MT.trB_leaf K l (x + j) hxj, hse])
                  have HXJ := Aside0.mk hxj
                  have hb1 : (x : Int) + (j : Int) ≤ 40 := by have := HLN.out; omega
                  have HPI2 := Aside0.mk (pk_inv K HKI.out.1 HKI.out.2 l (x + j) (by have := HLN.out; omega))
                  have HO2P := Aside0.mk (op_tr K HKI.out.1 HKI.out.2 l (x + j) 0 (by omega) (Nat.mod_one _) (by have := HLN.out; omega))
                  obtain ⟨lf, hlf⟩ : ∃ lf, lf = MH.lf K s := ⟨_, rfl⟩
                  rw [← hlf] at HLF HTB
                  rw [HTB.out] at HO2P
                  clear hs hse hlf
                  have hxj2 : (x : Int) + (j : Int) < (l.length : Int) := by omega
                  go_wp2_with (fail)
                  refine (hash_Leaf.calls K s lf _ HLF.out).mono ?_
                  rintro e w9 ⟨rfl, hb9⟩
                  have HRA9 := Aside0.mk (HRA2.out.below hb9)
                  have HRB9 := Aside0.mk (HRB2.out.below hb9)
                  have HB9 := Aside0.mk (below_weaken HB8.out HB8.out.size hb9)
                  clear hb9
                  go_wp2_with (fail)
                  refine (add_calls w9 hb okb2 K (x + j) _ lf HRB9.out HPI2.out).mono ?_
                  intro e w10 hA
                  obtain ⟨A10, N10, c10, rfl, hbs, hl, hr, hk⟩ := hA.told
                  obtain ⟨o1, o2, o3⟩ := HO2P.out
                  have o1' : opE K (x + j) 0 lf = 0 := o1
                  rw [o1']
                  have o2' : opN K (x + j) 0 lf = x + (j + 1) := o2
                  have o3' : opL K (x + j) (MT.pkL K l (x + j) 41) 0 lf = MT.pkL K l (x + (j + 1)) 41 := o3
                  rw [o2', o3'] at hr
                  have HRB10 := Aside0.mk hr
                  have HRA10 := Aside0.mk (HRA9.out.kept hk (fun j h h2 => HOK2.out.2.2 j h h2))
                  have HB10 := Aside0.mk (Kp.old HB9.out HB9.out.size hk HOK2.out.2.1)
                  have HOK10 := Aside0.mk (show (∀ j, (oka2 j ∧ j < w9.heap.size) → w3.heap.size ≤ j) ∧ (∀ j, nx w9 okb2 (.slice A10 N10 c10) j → w3.heap.size ≤ j) ∧ ∀ j, (oka2 j ∧ j < w9.heap.size) → ¬ nx w9 okb2 (.slice A10 N10 c10) j from by
                    have q1 := HB9.out.size
                    have q3 := HOK2.out
                    refine ⟨fun j h => q3.1 j h.1, fun j h => ?_, fun j h h2 => ?_⟩
                    · rcases h with h | h
                      · exact q3.2.1 j h.1
                      · omega
                    · rcases h2 with h2 | h2
                      · exact q3.2.2 j h.1 h2.1
                      · omega)
                  clear hbs hl hr hk hA o1 o2 o3 o1' o2' o3'
                  go_wp2_with (fail)
                  go_roundg k3
                  case measure => exact Nat.lt_succ_self _
                  case rel => exact ⟨j + 1, _, _, by go_num, ⟨by have := HJ.out; omega⟩, HRA10, HRB10, HOK10, HB10⟩
      · have hit : decide ((i : Int) < (l2.length : Int)) = false := decide_eq_false (by omega)
        have hit' : decide (i < l2.length) = false := decide_eq_false hi
        go_wp2_with (fail)
        go_loopg [13] 0 (fun kq v13 w' => ∃ g : Nat, v13 = .int .i64 (g : Int) ∧ Aside0 (g ≤ 5) ∧ Aside0 (kq = g) ∧ w' = wr)
        case atStart => exact ⟨0, by rfl, ⟨by omega⟩, ⟨rfl⟩, rfl⟩
        case round =>
          obtain ⟨g, rfl, HG5, HGK, rfl⟩ := hrel
          have hg5 : g ≤ 5 := HG5.out
          obtain ⟨z1, z2, z3, z4⟩ := tests_int x g l.length (by have := HX.out; have := HLN.out; omega) hg5
          by_cases hgo2 : 0 < g ∧ (¬ x % 2 ^ g = 0 ∨ l.length < x + 2 ^ g)
          · obtain ⟨hg0, hor⟩ := hgo2
            obtain ⟨k2, rfl⟩ : ∃ k2, gk = k2 + 1 := ⟨gk - 1, by have := HGK.out; omega⟩
            obtain ⟨g', rfl⟩ : ∃ g', g = g' + 1 := ⟨g - 1, by omega⟩
            have t0 : decide (0 < ((g' + 1 : Nat) : Int)) = true := decide_eq_true (by omega)
            have FIN : ∀ m1 : (((x : Int) % wrap64 (2 ^ (g' + 1)) = 0) = False) ∨ ((((x : Int) % wrap64 (2 ^ (g' + 1)) = 0) = True) ∧ decide ((l.length : Int) < wrap64 ((x : Int) + wrap64 (2 ^ (g' + 1)))) = true), True := fun _ => trivial
            have hc : (((x : Int) % wrap64 (2 ^ (g' + 1)) = 0) = False) ∨ ((((x : Int) % wrap64 (2 ^ (g' + 1)) = 0) = True) ∧ decide ((l.length : Int) < wrap64 ((x : Int) + wrap64 (2 ^ (g' + 1)))) = true) := by
              by_cases hmod : x % 2 ^ (g' + 1) = 0
              · exact .inr ⟨z2.1 hmod, z3.1 (by rcases hor with h | h; exact absurd hmod h; exact h)⟩
              · exact .inl (z2.2 hmod)
            have e1 : wrap64 (((g' + 1 : Nat) : Int) - 1) = (g' : Int) := by rw [MB.wrap64_in _ (by omega) (by omega)]; omega
            have HE1 := Aside0.mk e1
            clear hor z2 z3 z4 FIN e1
            rcases hc with m1 | ⟨m1, m2⟩
            all_goals
              go_wp2_with (fail)
              go_roundg k2
              case measure => exact Nat.lt_succ_self _
              case rel => exact ⟨g', by go_num, ⟨by omega⟩, ⟨by have := HGK.out; omega⟩, rfl⟩
          · have hcond : x % 2 ^ g = 0 ∧ x + 2 ^ g ≤ l.length := by
              by_cases hg0 : 0 < g
              · refine ⟨Classical.byContradiction fun h => hgo2 ⟨hg0, .inl h⟩, Classical.byContradiction fun h => hgo2 ⟨hg0, .inr (by omega)⟩⟩
              · have : g = 0 := by omega
                subst this
                refine ⟨Nat.mod_one _, ?_⟩
                have := HGO.out; simp; omega
            have HCO := Aside0.mk hcond
            have m1 := z2.1 hcond.1
            have m1b : ((x : Int) % wrap64 (2 ^ g) != 0) = false := by rw [bne_eq_false_iff_eq]; rw [m1]; trivial
            have m2 := z3.2 (by omega)
            have HZ4 := Aside0.mk z4
            have hends : (decide (0 < (g : Int)) = true ∧ decide (0 < g) = true) ∨ (decide (0 < (g : Int)) = false ∧ decide (0 < g) = false) := by
              by_cases h : 0 < g
              · exact .inl ⟨decide_eq_true (by omega), decide_eq_true h⟩
              · exact .inr ⟨decide_eq_false (by omega), decide_eq_false h⟩
            clear hgo2 hcond z2 z3 z4
            have HGB := Aside0.mk hg5
            have HTR := Aside0.mk (show plain_Tree.f 42 K l (g : Int) (IntKind.u64.wrap ((x : Int) / 2 ^ g)) = some (MT.trB K l (g, x / 2 ^ g), true) from by
              have hp : 0 < 2 ^ g := Nat.pow_pos (by omega)
              have hx := HX.out
              have hln := HLN.out
              have hdle : x / 2 ^ g ≤ x := Nat.div_le_self _ _
              have e : (x : Int) / 2 ^ g = ((x / 2 ^ g : Nat) : Int) := by push_cast; rfl
              rw [e, MB.wrap_u64_cast _ (by omega)]
              refine plain_Tree.is 42 K l g (x / 2 ^ g) (by omega) ?_ (by omega) (fun s hs => by have := HSZ.out s hs; omega) (by omega)
              have hdm := Nat.div_add_mod x (2 ^ g)
              have h1 := HCO.out
              rw [Nat.add_mul, Nat.one_mul, Nat.mul_comm]; omega)
            obtain ⟨T, hT⟩ : ∃ T, T = MT.trB K l (g, x / 2 ^ g) := ⟨_, rfl⟩
            have HOP := Aside0.mk (op_tr K HKI.out.1 HKI.out.2 l x g (by omega) HCO.out.1 (by have := HX.out; have := HLN.out; have := pow_int g hg5; omega))
            rw [← hT] at HTR HOP
            have HPI := Aside0.mk (pk_inv K HKI.out.1 HKI.out.2 l x (by have := HX.out; have := HLN.out; omega))
            clear hT
            rcases hends with ⟨t0, t0'⟩ | ⟨t0, t0'⟩
            all_goals
              go_wp2_with (fail)
              refine (plain_Tree.calls 42 K A3 c3 l _ _ T true wr (Kd.C_below HC3.out.2 HB.out) HC3.out.1 HTR.out).mono ?_
              rintro e w6 ⟨rfl, hb6⟩
              have HRA6 := Aside0.mk (HRA.out.below hb6)
              have HRB6 := Aside0.mk (HRB.out.below hb6)
              have HB6 := Aside0.mk (below_weaken HB.out HB.out.size hb6)
              clear hb6
              go_wp2_with (fail)
              refine (join_calls w6 ha oka K x _ (g : Int) T HRA6.out HPI.out).mono ?_
              rintro e w7 ⟨he, hr, hk⟩
              subst he
              obtain ⟨o1, o2, o3⟩ := HOP.out
              rw [o1]
              rw [o2, o3] at hr
              have HRA7 := Aside0.mk hr
              have HRB7 := Aside0.mk (HRB6.out.kept hk (fun j h h2 => HOK.out.2.2 j h2 h))
              have HB7 := Aside0.mk (Kp.old HB6.out HB6.out.size hk HOK.out.1)
              have HOK7 := Aside0.mk (show (∀ j, ((oka j ∧ j < w6.heap.size) ∨ w6.heap.size ≤ j) → w3.heap.size ≤ j) ∧ (∀ j, (okb j ∧ j < w6.heap.size) → w3.heap.size ≤ j) ∧ ∀ j, ((oka j ∧ j < w6.heap.size) ∨ w6.heap.size ≤ j) → ¬ (okb j ∧ j < w6.heap.size) from by
                have q1 := HB6.out.size
                have q3 := HOK.out
                refine ⟨fun j h => ?_, fun j h => q3.2.1 j h.1, fun j h h2 => ?_⟩
                · rcases h with h | h
                  · exact q3.1 j h.1
                  · omega
                · rcases h with h | h
                  · exact q3.2.2 j h.1 h2.1
                  · omega)
              clear hr hk o1 o2 o3
              go_wp2_with (fail)
              go_loopg [16] (2 ^ g) (fun kq v16 w' => ∃ (j : Nat) (oka okb : Nat → Prop), v16 = .int .i64 (j : Int) ∧ Aside0 (j + kq = 2 ^ g) ∧ Aside0 (Rg w' ha oka K ((x + 2 ^ g : Nat) : Int) (MT.pkL K l (x + 2 ^ g) 41)) ∧ Aside0 (Rg w' hb okb K ((x + j : Nat) : Int) (MT.pkL K l (x + j) 41)) ∧ Aside0 ((∀ j, oka j → w3.heap.size ≤ j) ∧ (∀ j, okb j → w3.heap.size ≤ j) ∧ ∀ j, oka j → ¬ okb j) ∧ Aside0 (Below w3.heap.size w3 w'))
              case atStart => exact ⟨0, _, _, by rfl, ⟨by omega⟩, HRA7, ⟨HRB7.out⟩, HOK7, HB7⟩
              case round =>
                obtain ⟨j, oka2, okb2, rfl, HJ, HRA2, HRB2, HOK2, HB8⟩ := hrel
                cases gk with
                | zero =>
                  have hj : decide ((j : Int) < wrap64 (2 ^ g)) = false := by rw [(pow_int g HGB.out).1]; exact decide_eq_false (by have := HJ.out; omega)
                  obtain ⟨y, hy⟩ : ∃ y : Nat, y = x + 2 ^ g := ⟨_, rfl⟩
                  have ej : x + j = y := by have := HJ.out; omega
                  rw [ej] at HRB2
                  have h4 := HZ4.out
                  rw [← hy] at HRA2 h4
                  have HY := Aside0.mk hy
                  have HYL := Aside0.mk (show y ≤ l.length from by have := HCO.out; omega)
                  have hy40 : (y : Int) ≤ 40 := by have := HYL.out; have := HLN.out; omega
                  have HV9 := Aside0.mk (pk_inv K HKI.out.1 HKI.out.2 l y (by omega))
                  obtain ⟨L9, hL9⟩ : ∃ L9, L9 = MT.pkL K l y 41 := ⟨_, rfl⟩
                  rw [← hL9] at HRA2 HRB2 HV9
                  have HL9 := Aside0.mk hL9
                  have hrt := rootIs HV9.out
                  obtain ⟨D, hD⟩ : ∃ D, D = MH.rootD K y L9 := ⟨_, rfl⟩
                  rw [← hD] at hrt
                  have HRT := Aside0.mk hrt
                  have HLL9 := Aside0.mk (show L9.length ≤ 64 from by have := HV9.out.len; have := MB.ones_le y; omega)
                  have HZY := Aside0.mk h4
                  clear hy ej hL9 hrt hD h4
                  go_wp2_with (fail)
                  rw [HZY.out]
                  refine (size_calls wr ha oka2 K y L9 HRA2.out).mono ?_
                  rintro e w9 ⟨rfl, hb9⟩
                  have HRA9 := Aside0.mk (HRA2.out.below hb9)
                  have HRB9 := Aside0.mk (HRB2.out.below hb9)
                  have HB9 := Aside0.mk (below_weaken HB8.out HB8.out.size hb9)
                  clear hb9
                  go_wp2_with (fail)
                  refine (size_calls w9 hb okb2 K y L9 HRB9.out).mono ?_
                  rintro e w10 ⟨rfl, hb10⟩
                  have HRA10 := Aside0.mk (HRA9.out.below hb10)
                  have HRB10 := Aside0.mk (HRB9.out.below hb10)
                  have HB10 := Aside0.mk (below_weaken HB9.out HB9.out.size hb10)
                  clear hb10
                  go_wp2_with (fail)
                  refine (root_calls 100 w10 ha _ K y L9 D HRA10.out HRT.out).mono ?_
                  rintro e w11 ⟨rfl, hb11⟩
                  have HRA11 := Aside0.mk (HRA10.out.below hb11)
                  have HRB11 := Aside0.mk (HRB10.out.below hb11)
                  have HB11 := Aside0.mk (below_weaken HB10.out HB10.out.size hb11)
                  clear hb11
                  go_wp2_with (fail)
                  refine (root_calls 100 w11 hb _ K y L9 D HRB11.out HRT.out).mono ?_
                  rintro e w12 ⟨rfl, hb12⟩
                  have HRA12 := Aside0.mk (HRA11.out.below hb12)
                  have HRB12 := Aside0.mk (HRB11.out.below hb12)
                  have HB12 := Aside0.mk (below_weaken HB11.out HB11.out.size hb12)
                  clear hb12
                  go_wp2_with (fail)
                  refine (peaks_calls w12 ha _ K y L9 HRA12.out (by have := HLL9.out; omega)).mono ?_
                  rintro e w13 ⟨v13, rfl, hr13, hb13⟩
                  obtain ⟨A13, c13, e13, hcc13, hC13⟩ := Kd.R_reads hr13
                  subst e13
                  have HC13 := Aside0.mk (And.intro hcc13 hC13)
                  have HRA13 := Aside0.mk (HRA12.out.below hb13)
                  have HRB13 := Aside0.mk (HRB12.out.below hb13)
                  have HB13 := Aside0.mk (below_weaken HB12.out HB12.out.size hb13)
                  clear hr13 hcc13 hC13 hb13
                  go_wp2_with (fail)
                  refine (peaks_calls w13 hb _ K y L9 HRB13.out (by have := HLL9.out; omega)).mono ?_
                  rintro e w14 ⟨v14, rfl, hr14, hb14⟩
                  obtain ⟨A14, c14, e14, hcc14, hC14⟩ := Kd.R_reads hr14
                  subst e14
                  have HC14 := Aside0.mk (And.intro hcc14 hC14)
                  have HC134 := Aside0.mk (Kd.C_below HC13.out.2 hb14)
                  have HRA14 := Aside0.mk (HRA13.out.below hb14)
                  have HRB14 := Aside0.mk (HRB13.out.below hb14)
                  have HB14 := Aside0.mk (below_weaken HB13.out HB13.out.size hb14)
                  clear hr14 hcc14 hC14 hb14
                  go_wp2_with (fail)
                  refine (massiflaw09_same.calls 1000 A13 c13 L9 A14 c14 L9 true _ HC134.out HC13.out.1 HC14.out.2 HC14.out.1 (massiflaw09_same.is 1000 L9 (by have := HLL9.out; omega) (by have := HLL9.out; omega))).mono ?_
                  rintro e w15 ⟨rfl, hd15⟩
                  have HRA15 := Aside0.mk (HRA14.out.below hd15.below)
                  have HRB15 := Aside0.mk (HRB14.out.below hd15.below)
                  have HB15 := Aside0.mk (below_weaken HB14.out HB14.out.size hd15.below)
                  clear hd15
                  go_wp2_with (fail)
                  go_roundg k1
                  case measure => exact Nat.lt_succ_self _
                  case rel => exact ⟨y, i + 1, oka2, okb2, by go_num, by go_num, ⟨HYL.out, by have := HX.out; have := HY.out; have := (pow_int g HGB.out).2.2; omega⟩, ⟨by have := HG.out; have := HY.out; have := (pow_int g HGB.out).2.2; omega⟩, ⟨by rw [← HL9.out]; exact HRA15.out⟩, ⟨by rw [← HL9.out]; exact HRB15.out⟩, HOK2, HB15⟩
                | succ k3 =>
                  have hj : decide ((j : Int) < wrap64 (2 ^ g)) = true := by rw [(pow_int g HGB.out).1]; exact decide_eq_true (by have := HJ.out; omega)
                  have hxj : x + j < l.length := by have := HJ.out; have := HCO.out; omega
                  obtain ⟨ad, e1, hx⟩ := Kd.at_string (Kd.C_below HC3.out.2 HB8.out) ((x : Int) + (j : Int)) (by omega) (by omega)
                  cases e1
                  obtain ⟨s, hs⟩ : ∃ s, s = rdOf ByteArray.empty l ((x : Int) + (j : Int)) := ⟨_, rfl⟩
                  rw [← hs, show ((x : Int) + (j : Int)).toNat = x + j from by omega] at hx
                  have hse : s = l[x + j] := by rw [hs]; unfold rdOf; rw [show ((x : Int) + (j : Int)).toNat = x + j from by omega, List.getD_eq_getElem?_getD, List.getElem?_eq_getElem hxj]; rfl
                  have HLF := Aside0.mk (hash_Leaf.is K s (by have := HSZ.out s (by rw [hse]; exact List.getElem_mem _); omega))
                  have HTB := Aside0.mk (show MT.trB K l (0, (x + j) / 2 ^ 0) = MH.lf K s from by rw [Nat.pow_zero, Nat.div_one, MT.trB_leaf K l (x + j) hxj, hse])
                  have HXJ := Aside0.mk hxj
                  have hb1 : (x : Int) + (j : Int) ≤ 40 := by have := HLN.out; omega
                  have HPI2 := Aside0.mk (pk_inv K HKI.out.1 HKI.out.2 l (x + j) (by have := HLN.out; omega))
                  have HO2P := Aside0.mk (op_tr K HKI.out.1 HKI.out.2 l (x + j) 0 (by omega) (Nat.mod_one _) (by have := HLN.out; omega))
                  obtain ⟨lf, hlf⟩ : ∃ lf, lf = MH.lf K s := ⟨_, rfl⟩
                  rw [← hlf] at HLF HTB
                  rw [HTB.out] at HO2P
                  clear hs hse hlf
                  have hxj2 : (x : Int) + (j : Int) < (l.length : Int) := by omega
                  go_wp2_with (fail)
                  refine (hash_Leaf.calls K s lf _ HLF.out).mono ?_
                  rintro e w9 ⟨rfl, hb9⟩
                  have HRA9 := Aside0.mk (HRA2.out.below hb9)
                  have HRB9 := Aside0.mk (HRB2.out.below hb9)
                  have HB9 := Aside0.mk (below_weaken HB8.out HB8.out.size hb9)
                  clear hb9
                  go_wp2_with (fail)
                  refine (add_calls w9 hb okb2 K (x + j) _ lf HRB9.out HPI2.out).mono ?_
                  intro e w10 hA
                  obtain ⟨A10, N10, c10, rfl, hbs, hl, hr, hk⟩ := hA.told
                  obtain ⟨o1, o2, o3⟩ := HO2P.out
                  have o1' : opE K (x + j) 0 lf = 0 := o1
                  rw [o1']
                  have o2' : opN K (x + j) 0 lf = x + (j + 1) := o2
                  have o3' : opL K (x + j) (MT.pkL K l (x + j) 41) 0 lf = MT.pkL K l (x + (j + 1)) 41 := o3
                  rw [o2', o3'] at hr
                  have HRB10 := Aside0.mk hr
                  have HRA10 := Aside0.mk (HRA9.out.kept hk (fun j h h2 => HOK2.out.2.2 j h h2))
                  have HB10 := Aside0.mk (Kp.old HB9.out HB9.out.size hk HOK2.out.2.1)
                  have HOK10 := Aside0.mk (show (∀ j, (oka2 j ∧ j < w9.heap.size) → w3.heap.size ≤ j) ∧ (∀ j, nx w9 okb2 (.slice A10 N10 c10) j → w3.heap.size ≤ j) ∧ ∀ j, (oka2 j ∧ j < w9.heap.size) → ¬ nx w9 okb2 (.slice A10 N10 c10) j from by
                    have q1 := HB9.out.size
                    have q3 := HOK2.out
                    refine ⟨fun j h => q3.1 j h.1, fun j h => ?_, fun j h h2 => ?_⟩
                    · rcases h with h | h
                      · exact q3.2.1 j h.1
                      · omega
                    · rcases h2 with h2 | h2
                      · exact q3.2.2 j h.1 h2.1
                      · omega)
                  clear hbs hl hr hk hA o1 o2 o3 o1' o2' o3'
                  go_wp2_with (fail)
                  go_roundg k3
                  case measure => exact Nat.lt_succ_self _
                  case rel => exact ⟨j + 1, _, _, by go_num, ⟨by have := HJ.out; omega⟩, HRA10, HRB10, HOK10, HB10⟩
    · have hlt : decide ((x : Int) < (l.length : Int)) = false := decide_eq_false (by omega)
      have hlt' : decide (x < l.length) = false := decide_eq_false hgo
      go_wp2_with (fail)
      go_ret
      exact ⟨rfl, below_weaken HB3.out HB3.out.size HB.out⟩
end Go.Proofs.Ytgooamgpojeeaaa.Pk
