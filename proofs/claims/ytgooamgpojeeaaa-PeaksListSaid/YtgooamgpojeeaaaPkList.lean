/- The walk of massiflaw09.PeaksList: it answers true, and what was there stays. -/
import Derived.Test.YtgooamgpojeeaaaPkOn
import Derived.Test.YtgooamgpojeeaaaPkLi
import Derived.Deep.RegionHeld3
import Derived.Outline
set_option linter.unusedVariables false
set_option linter.unusedSimpArgs false
namespace Go.Proofs.Ytgooamgpojeeaaa.Pk
open Go.RowKit Go.Proofs.Ytgooamgpojeeaaa.MB Go.Proofs.YtgooamgpojeeaaaW.PrintWords Go.Proofs.YtgooamgpojeeaaaW.PrintLast Go.Proofs.YtgooamgpojeeaaaW.PrintMore Go.Proofs.Ytgooamgpojeeaaa.PPeaksList Go.Proofs.Ytgooamgpojeeaaa.Ob
theorem gate_store {P : Program} {ops : Array Oper} {rest : List Oper} {o : Oper} {a : Act} {W : World} {Q : Exit → Act → World → Prop} {t : TypeId} {x v : Operand} (_ho : o.op = .store t x v) (h : wpList P ops Q (o :: rest) a W) : wpList P ops Q (o :: rest) a W := h
theorem oneB (h k : Int) : ∀ v ∈ (#[Value.int .i64 h, .int .u64 k] : Array Value).toList, v.oneCell' = true := by
  intro v hv; simp at hv; rcases hv with rfl | rfl <;> rfl
theorem one2 (n : Int) (s : ByteArray) : ∀ v ∈ (#[Value.int .u64 n, .string s] : Array Value).toList, v.oneCell' = true := by
  intro v hv; simp at hv; rcases hv with rfl | rfl <;> rfl
set_option maxHeartbeats 8000000 in
set_option maxRecDepth 100000 in
theorem list_calls (w : World) (k : Int) (A1 : Option Addr) (c1 : Nat) (l1 : List ByteArray) (h1 : Kd.C Kd.string w A1 l1.length l1) (hc1 : l1.length ≤ c1) (hl1 : l1.length ≤ 140737488351232) :
    Calls Try.prog 7 #[.int .i64 k, .slice A1 l1.length c1] w fun e w' => e = .returned (.bool true) ∧ Below w.heap.size w w' := by
  obtain ⟨K, hK, hK1, hK2⟩ := strength_is k
  obtain ⟨l, hfew, hlen, hsz⟩ := few_some l1 hl1
  have HO1 := Aside0.mk (And.intro h1 hc1)
  have HKS := Aside0.mk hK
  have HKI := Aside0.mk (And.intro hK1 hK2)
  have HFW := Aside0.mk hfew
  have HLN := Aside0.mk hlen
  have HSZ := Aside0.mk hsz
  clear h1 hc1 hl1 hK hK1 hK2 hfew hlen hsz
  obtain ⟨i9, hi9, hx9⟩ := Option.map_eq_some_iff.1 info9
  have HI9 := Aside0.mk hi9
  clear hi9 hx9
  go_enter Try.func7, Try.ntmps7
  go_wp2_with (fail)
  refine (alive_calls w).mono ?_
  rintro e w1 ⟨rfl, hb1⟩
  have HB1 := Aside0.mk hb1
  clear hb1
  go_wp2_with (fail)
  refine (massiflaw09_strength.calls k K w1 HKS.out).mono ?_
  rintro e w2 ⟨rfl, hd⟩
  have HB2 := Aside0.mk (below_weaken HB1.out HB1.out.size hd.below)
  clear hd
  go_wp2_with (fail)
  refine (massiflaw09_few.calls 100 A1 c1 l1 40 l w2 (Kd.C_below HO1.out.1 HB2.out) HO1.out.2 HFW.out).mono ?_
  rintro e w3 ⟨v3, rfl, hr3, hb3⟩
  obtain ⟨A3, c3, e3, hcc3, hC3⟩ := Kd.R_reads hr3
  subst e3
  have HC3 := Aside0.mk (And.intro hcc3 hC3)
  have HB3 := Aside0.mk (below_weaken HB2.out HB2.out.size hb3)
  clear hr3 hb3 hcc3 hC3
  go_wp2_with (fail)
  refine (new_ok w3 K HKI.out.1 HKI.out.2).mono ?_
  rintro e w4 ⟨ha, rfl, hle, hr, hb4⟩
  have HRA4 := Aside0.mk hr
  have HB4 := Aside0.mk hb4
  clear hr hle hb4
  go_wp2_with (fail)
  have hl40 : (l.length : Int) ≤ 40 := by have := HLN.out; omega
  go_loopg [7] l.length (fun kq v7 w' => ∃ (i : Nat) (ok : Nat → Prop), v7 = .int .i64 (i : Int) ∧ Aside0 (i + kq = l.length) ∧ Aside0 (Rg w' ha ok K i (MT.pkL K l i 41)) ∧ Aside0 (∀ j, ok j → w3.heap.size ≤ j) ∧ Aside0 (Below w3.heap.size w3 w'))
  case atStart => exact ⟨0, _, by rfl, ⟨by omega⟩, ⟨by rw [pk_zero]; exact HRA4.out⟩, ⟨fun j (h : w3.heap.size ≤ j) => h⟩, HB4⟩
  case round =>
    clear HRA4 HB4
    obtain ⟨i, ok, rfl, HI, HR, HOK, HB⟩ := hrel
    cases gk with
    | zero =>
      have hlt : decide ((i : Int) < (l.length : Int)) = false := decide_eq_false (by have := HI.out; omega)
      have hlt' : decide (i < l.length) = false := decide_eq_false (by have := HI.out; omega)
      go_wp2_with (fail)
      go_ret
      exact ⟨rfl, below_weaken HB3.out HB3.out.size HB.out⟩
    | succ k1 =>
      have hil : i < l.length := by have := HI.out; omega
      have hlt : decide ((i : Int) < (l.length : Int)) = true := decide_eq_true (by omega)
      have hlt' : decide (i < l.length) = true := decide_eq_true hil
      have hi40 : (i : Int) < 40 := by omega
      obtain ⟨ad, e1, hx⟩ := Kd.at_string (Kd.C_below HC3.out.2 HB.out) (i : Int) (by omega) (by omega)
      cases e1
      obtain ⟨s, hs⟩ : ∃ s, s = rdOf ByteArray.empty l (i : Int) := ⟨_, rfl⟩
      rw [← hs, Int.toNat_natCast] at hx
      have hse : s = l[i] := by rw [hs]; unfold rdOf; rw [Int.toNat_natCast, List.getD_eq_getElem?_getD, List.getElem?_eq_getElem hil]; rfl
      have HLF := Aside0.mk (hash_Leaf.is K s (by have := HSZ.out s (by rw [hse]; exact List.getElem_mem _); omega))
      have HTB := Aside0.mk (show MT.trB K l (0, i / 2 ^ 0) = MH.lf K s from by rw [Nat.pow_zero, Nat.div_one, MT.trB_leaf K l i hil, hse])
      have HPI := Aside0.mk (pk_inv K HKI.out.1 HKI.out.2 l i (by have := HLN.out; omega))
      have HPN := Aside0.mk (pk_inv K HKI.out.1 HKI.out.2 l (i + 1) (by have := HLN.out; omega))
      have HO2P := Aside0.mk (op_tr K HKI.out.1 HKI.out.2 l i 0 (by omega) (Nat.mod_one _) (by have := HLN.out; omega))
      obtain ⟨lf, hlf⟩ : ∃ lf, lf = MH.lf K s := ⟨_, rfl⟩
      rw [← hlf] at HLF HTB
      rw [HTB.out] at HO2P
      have HIL := Aside0.mk hil
      obtain ⟨t, ht⟩ : ∃ t, t = t1 i := ⟨_, rfl⟩
      have HT := Aside0.mk ht
      have HMM := Aside0.mk (show opM K i (MT.pkL K l i 41) 0 lf = (List.range (t + 1)).map (fun j => MT.trB K l (j, i / 2 ^ j)) from by
        have o1 : opE K i 0 lf = 0 := HO2P.out.1
        unfold opM
        rw [if_pos o1, ht]
        show mades K (MT.pkL K l i 41) lf (t1 (i / 2 ^ 0)) = _
        unfold mades
        rw [show i / 2 ^ 0 = i from by simp]
        apply List.map_congr_left
        intro j hj
        have := ups_tr K l i 0 (Nat.mod_one _) (by have := HLN.out; omega) j (by rw [show i / 2 ^ 0 = i from by simp]; have := List.mem_range.1 hj; omega)
        rw [HTB.out] at this
        rw [this, Nat.zero_add, Nat.pow_zero, Nat.div_one])
      have hsl := cut_to (P := Try.prog) 25 9 .i64 Try.underlying25 (i := i9) HI9.out (some ad) l.length c3 ((i : Int) + 1) (by omega) (by omega) HC3.out.1
      obtain ⟨so, hso⟩ : ∃ so, so = l.take (i + 1) := ⟨_, rfl⟩
      have hsol : so.length = i + 1 := by rw [hso, List.length_take]; omega
      rw [show ((i : Int) + 1).toNat = so.length from by omega] at hsl
      have HSL := Aside0.mk hsl
      have HSO := Aside0.mk (And.intro hso hsol)
      have HSC := Aside0.mk (show Kd.C Kd.string w3 (some ad) so.length so from by rw [hso]; exact Kd.C_take HC3.out.2 (by omega))
      have HSS := Aside0.mk (fun s' (h : s' ∈ so) => show s'.size ≤ 200 from by rw [hso] at h; exact HSZ.out s' (List.mem_of_mem_take h))
      have HSCC := Aside0.mk (show so.length ≤ c3 from by have := HC3.out.1; omega)
      clear hso hsol
      clear hs hse hlf ht hsl
      go_wp2_with (fail)
      refine (hash_Leaf.calls K s lf _ HLF.out).mono ?_
      rintro e w5 ⟨rfl, hb5⟩
      have HR5 := Aside0.mk (HR.out.below hb5)
      have HB5 := Aside0.mk (below_weaken HB.out HB.out.size hb5)
      clear hb5
      go_wp2_with (fail)
      refine (add_calls w5 ha ok K i _ lf HR5.out HPI.out).mono ?_
      intro e w6 hA
      obtain ⟨A6, N6, c6, rfl, hbs, hl, hr, hk⟩ := hA.told
      obtain ⟨o1, o2, o3⟩ := HO2P.out
      have o1' : opE K i 0 lf = 0 := o1
      rw [o1']
      have o2' : opN K i 0 lf = i + 1 := o2
      have o3' : opL K i (MT.pkL K l i 41) 0 lf = MT.pkL K l (i + 1) 41 := o3
      rw [o2', o3'] at hr
      rw [HMM.out] at hl
      obtain ⟨M, hM⟩ : ∃ M, M = (List.range (t + 1)).map (fun j => MT.trB K l (j, i / 2 ^ j)) := ⟨_, rfl⟩
      rw [← hM] at hl
      have HME := Aside0.mk hM
      have HML := Aside0.mk (show M.length = t + 1 from by rw [hM]; simp)
      have HR6 := Aside0.mk hr
      have HL6 := Aside0.mk hl
      have HB6 := Aside0.mk (Kp.old HB5.out HB5.out.size hk HOK.out)
      have HOK6 := Aside0.mk (show ∀ j, nx w5 ok (.slice A6 N6 c6) j → w3.heap.size ≤ j from fun j h => by have := HB5.out.size; rcases h with h | h; exact HOK.out j h.1; omega)
      obtain ⟨hN6, hc6, hC6⟩ := HL6.out.C
      subst hN6
      have HC6 := Aside0.mk (And.intro hc6 hC6)
      have ht64 : t ≤ 64 := by rw [HT.out]; exact Nat.le_trans (t1_le_ones i (by omega)) (MB.ones_le i)
      clear hbs hl hr hk hA o1 o2 o3 o1' o2' o3' hM hc6 hC6
      have hsl := HSL.out
      have hN' : ((i + 1 : Nat) : Int) = (i : Int) + 1 := by omega
      rw [hN'] at HR6
      have hpl0 : MB.pl 0 i = 2 * i - MB.ones i := by unfold MB.pl; rw [Nat.pow_zero]; omega
      obtain ⟨P0, hP0⟩ : ∃ P0, P0 = MB.pl 0 i := ⟨_, rfl⟩
      have HPN0 := Aside0.mk (show place_Nodes.f 65 (i : Int) = some ((P0 : Int), true) from by rw [hP0, hpl0]; exact place_Nodes.is i 65 (by omega) (by omega))
      have HP0 := Aside0.mk hP0
      have hP80 : (P0 : Int) ≤ 80 := by omega
      obtain ⟨L9, hL9⟩ : ∃ L9, L9 = MT.pkL K l (i + 1) 41 := ⟨_, rfl⟩
      rw [← hL9] at HPN HR6
      have HL9 := Aside0.mk hL9
      have hrt := rootIs HPN.out
      rw [hN'] at hrt
      obtain ⟨D, hD⟩ : ∃ D, D = MH.rootD K ((i : Int) + 1) L9 := ⟨_, rfl⟩
      rw [← hD] at hrt
      have HRT := Aside0.mk hrt
      have HD := Aside0.mk hD
      have HLL9 := Aside0.mk (show L9.length ≤ 64 from by have := HPN.out.len; have := MB.ones_le (i + 1); omega)
      have hml : ((M.length : Int) != 1 + (t : Int)) = false := by rw [HML.out]; simp; omega
      clear hN' hpl0 hP0 hL9 hrt hD
      go_wp2_with (fail)
      refine (massiflaw09_trail.calls 100 (i : Int) (t : Int) w6 (by rw [HT.out]; exact trail_is i (by omega))).mono ?_
      rintro e w7 ⟨rfl, hd7⟩
      have HR7 := Aside0.mk (HR6.out.below hd7.below)
      have HC7 := Aside0.mk (Kd.C_below HC6.out.2 hd7.below)
      have HB7 := Aside0.mk (below_weaken HB6.out HB6.out.size hd7.below)
      clear hd7
      go_wp2_with (fail)
      refine (place_Nodes.calls 65 (i : Int) (P0 : Int) true w7 HPN0.out).mono ?_
      rintro e w8 ⟨rfl, hd8⟩
      have HR8 := Aside0.mk (HR7.out.below hd8.below)
      have HC8 := Aside0.mk (Kd.C_below HC7.out hd8.below)
      have HB8 := Aside0.mk (below_weaken HB7.out HB7.out.size hd8.below)
      clear hd8 hml
      go_wp2_with (fail)
      go_loopg [13] (t + 1) (fun kq v13 w' => ∃ j : Nat, v13 = .int .i64 (j : Int) ∧ Aside0 (j + kq = t + 1) ∧ Aside0 (Below w8.heap.size w8 w'))
      case atStart => exact ⟨0, by rfl, ⟨by omega⟩, ⟨Below.refl _ _⟩⟩
      case round =>
        obtain ⟨j, rfl, HJ, HBJ⟩ := hrel
        cases gk with
        | zero =>
          have hjt : decide ((j : Int) < (M.length : Int)) = false := decide_eq_false (by have := HJ.out; have := HML.out; omega)
          have hjt' : decide (j < M.length) = false := decide_eq_false (by have := HJ.out; have := HML.out; omega)
          have HPK := Aside0.mk (show MT.pks K so = L9 from by rw [HSO.out.1, HL9.out]; exact pk_take K l (i + 1) (by have := HIL.out; omega))
          have HPR := Aside0.mk (show plain_Root.f 4200 K so ((i : Int) + 1) = some ((i : Int) + 1, D, 0) from by
            have h1 := plain_Root.is 4200 K so (i + 1) ⟨HKI.out.1, HKI.out.2⟩ (by rw [HSO.out.2]; exact Nat.le_refl _) (by rw [HSO.out.2]; omega) (fun s' h => by have := HSS.out s' h; omega) (Nat.le_refl _)
            rw [List.take_of_length_le (by rw [HSO.out.2]; exact Nat.le_refl _), HPK.out] at h1
            rw [HD.out, show ((i : Int) + 1) = ((i + 1 : Nat) : Int) from by omega]; exact h1)
          have HPP := Aside0.mk (show plain_Peaks.f 4200 K so = some L9 from by rw [← HPK.out]; exact plain_Peaks.is 4200 K so (by rw [HSO.out.2]; omega) (fun s' h => by have := HSS.out s' h; omega) (Nat.le_refl _))
          have HPC := Aside0.mk (fun (W : World) (hW : Below w3.heap.size w3 W) => show Calls Try.prog 27 #[.int .i64 K, .slice (some ad) so.length c3] W (Fresh W L9) from by
            refine (plain_Peaks.calls 4200 K (fun _ => True) (some ad) c3 so L9 W (Kd.V_mk HSCC.out (Kd.F_mono (Kd.C_F Kd.heap_string (Kd.C_below HSC.out hW)) (fun _ _ => trivial))) HPP.out).mono ?_
            rintro e w' ⟨v, rfl, h1, h2⟩
            exact ⟨v, rfl, h1, h2⟩)
          have HBW := Aside0.mk (below_weaken HB8.out HB8.out.size HBJ.out)
          have HRW := Aside0.mk (HR8.out.below HBJ.out)
          go_wp2_with (fail)
          refine (plain_Root.calls 4200 K (some ad) c3 so ((i : Int) + 1) ((i : Int) + 1) D 0 wr (Kd.C_below HSC.out HBW.out) HSCC.out HPR.out).mono ?_
          rintro e w9 ⟨rfl, hb9⟩
          have HR9 := Aside0.mk (HRW.out.below hb9)
          have HB9 := Aside0.mk (below_weaken HBW.out HBW.out.size hb9)
          clear hb9
          have HW0 := Aside0.mk (below_alloc (Below.refl _ w9) (.cells #[.int .u64 ((i : Int) + 1), .string D] 39))
          have HK0 := Aside0.mk (blk_new w9 (.cells #[.int .u64 ((i : Int) + 1), .string D] 39))
          go_wp2_with (first | ((with_reducible refine gate_store (t := 39) (x := .tmp 18) (v := .tmp 117) rfl ?_); refine Sha.wpList_store_row' rfl 39 (.tmp 18) (.tmp 117) rfl w9.heap.size rfl #[.int .u64 ((i : Int) + 1), .string D] rfl _ 39 (blk_new _ _) rfl (by kernel_rfl) (one2 ((i : Int) + 1) D) ?_; intro w10 hw10; rw [Sha.setRow_new _ _ _ _ _ rfl] at hw10; rw [← hw10] at HW0 HK0; clear hw10))
          obtain ⟨b, hb⟩ : ∃ b, b = w9.heap.size := ⟨_, rfl⟩
          rw [← hb] at HK0
          rw [← hb]
          have HBB := Aside0.mk hb
          clear hb
          have e0 : w10.cell? ⟨b, 0, none⟩ = some (.int .u64 ((i : Int) + 1)) := by simp [World.cell?, HK0.out]
          have e1 : w10.cell? ⟨b, 1, none⟩ = some (.string D) := by simp [World.cell?, HK0.out]
          have HRD := Aside0.mk (show Rg w10.drew ha (nx w5 ok (.slice A6 M.length c6)) K ((i : Int) + 1) L9 from (HR9.out.below HW0.out).step (fun _ _ _ => rfl))
          have HBD := Aside0.mk (below_drew (below_weaken HB9.out HB9.out.size HW0.out))
          have hw1 : wrap64 ((i : Int) + 1) = (i : Int) + 1 := MB.wrap64_in _ (by omega) (by omega)
          have hw3 : IntKind.u64.wrap ((i : Int) + 1) = (i : Int) + 1 := MB.wrap_u64_in _ (by omega) (by omega)
          have hw2 : IntKind.i64.wrap ((i : Int) + 1) = (i : Int) + 1 := IntWalk.i64_in _ (by omega)
          go_region_held3 (fun w' => w'.cell? ⟨b, 0, none⟩ = some (.int .u64 ((i : Int) + 1)) ∧ w'.cell? ⟨b, 1, none⟩ = some (.string D)) (first | exact ⟨e0, e1⟩ | exact ⟨f0, f1⟩ | exact ⟨g0, g1⟩ | exact ⟨i0, i1⟩ | exact ⟨j0, j1⟩ | exact ⟨k0, k1'⟩ | go_keep) (first | (go_at_call 16; refine (root_calls 100 _ ha _ K ((i : Int) + 1) L9 D HRD.out HRT.out).mono ?_; rintro e w13 ⟨rfl, hq13⟩; have g0 : w13.cell? ⟨b, 0, none⟩ = some (.int .u64 ((i : Int) + 1)) := (hq13.cell (World.block_lt_of_cell? _ _ e0)).trans e0; have g1 : w13.cell? ⟨b, 1, none⟩ = some (.string D) := (hq13.cell (World.block_lt_of_cell? _ _ e1)).trans e1; have HR13 := Aside0.mk (HRD.out.below hq13); have HB13 := Aside0.mk (below_weaken HBD.out HBD.out.size hq13); clear hq13) | (go_at_call 15; refine (size_calls _ ha _ K ((i : Int) + 1) L9 HR13.out).mono ?_; rintro e w12 ⟨rfl, hq12⟩; have f0 : w12.cell? ⟨b, 0, none⟩ = some (.int .u64 ((i : Int) + 1)) := (hq12.cell (World.block_lt_of_cell? _ _ g0)).trans g0; have f1 : w12.cell? ⟨b, 1, none⟩ = some (.string D) := (hq12.cell (World.block_lt_of_cell? _ _ g1)).trans g1; have HR12 := Aside0.mk (HR13.out.below hq12); have HB12 := Aside0.mk (below_weaken HB13.out HB13.out.size hq12); clear hq12) | (go_at_call 12; refine (peaks_calls _ ha _ K ((i : Int) + 1) L9 HR12.out (Nat.le_trans HLL9.out (by omega))).mono ?_; rintro e w14 ⟨v14, rfl, hr14, hq14⟩; obtain ⟨A14, c14, e14, hcc14, hC14⟩ := Kd.R_reads hr14; subst e14; have i0 : w14.cell? ⟨b, 0, none⟩ = some (.int .u64 ((i : Int) + 1)) := (hq14.cell (World.block_lt_of_cell? _ _ f0)).trans f0; have i1 : w14.cell? ⟨b, 1, none⟩ = some (.string D) := (hq14.cell (World.block_lt_of_cell? _ _ f1)).trans f1; have HR14 := Aside0.mk (HR12.out.below hq14); have HC14 := Aside0.mk (And.intro hcc14 hC14); have HB14 := Aside0.mk (below_weaken HB12.out HB12.out.size hq14); clear hr14 hcc14 hC14 hq14) | (go_at_call 27; refine (HPC.out _ HB14.out).mono ?_; rintro e w15 ⟨v15, rfl, hr15, hq15⟩; obtain ⟨A15, c15, e15, hcc15, hC15⟩ := Kd.R_reads hr15; subst e15; have k0 : w15.cell? ⟨b, 0, none⟩ = some (.int .u64 ((i : Int) + 1)) := (hq15.cell (World.block_lt_of_cell? _ _ i0)).trans i0; have k1' : w15.cell? ⟨b, 1, none⟩ = some (.string D) := (hq15.cell (World.block_lt_of_cell? _ _ i1)).trans i1; have HR15 := Aside0.mk (HR14.out.below hq15); have HC145 := Aside0.mk (Kd.C_below HC14.out.2 hq15); have HC15 := Aside0.mk (And.intro hcc15 hC15); have HB15 := Aside0.mk (below_weaken HB14.out HB14.out.size hq15); clear hr15 hcc15 hC15 hq15) | (go_at_call 13; refine (massiflaw09_same.calls 1000 A14 c14 L9 A15 c15 L9 true _ HC145.out HC14.out.1 HC15.out.2 HC15.out.1 (massiflaw09_same.is 1000 L9 (Nat.le_trans HLL9.out (by omega)) (Nat.lt_of_le_of_lt HLL9.out (by omega)))).mono ?_; rintro e w16 ⟨rfl, hd16⟩; have j0 : w16.cell? ⟨b, 0, none⟩ = some (.int .u64 ((i : Int) + 1)) := (hd16.below.cell (World.block_lt_of_cell? _ _ k0)).trans k0; have j1 : w16.cell? ⟨b, 1, none⟩ = some (.string D) := (hd16.below.cell (World.block_lt_of_cell? _ _ k1')).trans k1'; have HRF := Aside0.mk (HR15.out.below hd16.below); have HBF := Aside0.mk (below_weaken HB15.out HB15.out.size hd16.below); clear hd16))
          clear hw1 hw2 hw3
          go_wp2_with (fail)
          go_roundg k1
          case measure => exact Nat.lt_succ_self _
          case rel => exact ⟨i + 1, _, by go_num, ⟨by have := HI.out; omega⟩, ⟨by rw [← HL9.out, show ((i + 1 : Nat) : Int) = (i : Int) + 1 from by omega]; exact HRF.out⟩, HOK6, HBF⟩
        | succ k3 =>
          have hjm : j < M.length := by have := HJ.out; have := HML.out; omega
          have hjt : decide ((j : Int) < (M.length : Int)) = true := decide_eq_true (by omega)
          have hjt' : decide (j < M.length) = true := decide_eq_true hjm
          have hj64 : (j : Int) ≤ 64 := by have := HJ.out; omega
          obtain ⟨hmay, hplj⟩ := up_pl i (by omega) j (by have := HJ.out; have := HT.out; omega)
          have hfit := up_fit i (by omega) j (by have := HJ.out; have := HT.out; omega)
          have HBL := Aside0.mk (show place_Block.f 42 ((P0 : Int) + (j : Int)) = some ((j : Int), ((i / 2 ^ j : Nat) : Int), true) from by
            have := place_Block.yes j (i / 2 ^ j) 42 hmay (by omega)
            rw [hplj, ← HP0.out] at this
            rw [← Int.natCast_add]; exact this)
          obtain ⟨T, hT⟩ : ∃ T, T = MT.trB K l (j, i / 2 ^ j) := ⟨_, rfl⟩
          have HTR := Aside0.mk (show plain_Tree.f 42 K so (j : Int) ((i / 2 ^ j : Nat) : Int) = some (T, true) from by
            have h1 := plain_Tree.is 42 K so j (i / 2 ^ j) hmay.1 (by rw [hfit, HSO.out.2]; exact Nat.le_refl _) (by rw [HSO.out.2]; omega) (fun s' h => by have := HSS.out s' h; omega) (by omega)
            rw [h1, hT, HSO.out.1, tr_take K l (i + 1) j (i / 2 ^ j) (by rw [hfit]; exact Nat.le_refl _)])
          obtain ⟨am, em, hm⟩ := Kd.at_string (Kd.C_below HC8.out HBJ.out) (j : Int) (by omega) (by omega)
          rw [Int.toNat_natCast] at hm
          have hmT : rdOf ByteArray.empty M (j : Int) = T := by
            unfold rdOf
            rw [Int.toNat_natCast, HME.out, List.getD_eq_getElem?_getD, List.getElem?_map, List.getElem?_range (by have := HML.out; omega), hT]; rfl
          rw [hmT] at hm
          obtain ⟨kk, hkk⟩ : ∃ kk : Int, kk = ((i / 2 ^ j : Nat) : Int) := ⟨_, rfl⟩
          rw [← hkk] at HBL HTR
          have HM8 := Aside0.mk (fun (W : World) (hW : Below wr.heap.size wr W) => (hW.cell (World.block_lt_of_cell? _ _ hm)).trans hm)
          have hBJ := HBJ.out.size
          clear hmay hplj hfit hT hmT hkk hm
          subst em
          go_wp2_with (fail)
          refine (place_Block.calls 42 ((P0 : Int) + (j : Int)) (j : Int) kk true wr HBL.out).mono ?_
          rintro e w9 ⟨rfl, hb9⟩
          have HB9 := Aside0.mk hb9
          clear hb9
          have HW0 := Aside0.mk (below_alloc (Below.refl _ w9) (.cells #[.int .i64 (j : Int), .int .u64 kk] 55))
          have HK0 := Aside0.mk (blk_new w9 (.cells #[.int .i64 (j : Int), .int .u64 kk] 55))
          go_wp2_with (first | ((with_reducible refine gate_store (t := 55) (x := .tmp 14) (v := .tmp 87) rfl ?_); refine Sha.wpList_store_row' rfl 55 (.tmp 14) (.tmp 87) rfl w9.heap.size rfl #[.int .i64 (j : Int), .int .u64 kk] rfl _ 55 (blk_new _ _) rfl (by kernel_rfl) (oneB (j : Int) kk) ?_; intro w10 hw10; rw [Sha.setRow_new _ _ _ _ _ rfl] at hw10; rw [← hw10] at HW0 HK0; clear hw10; have d0 : w10.cell? ⟨w9.heap.size, 0, none⟩ = some (.int .i64 (j : Int)) := (by simp [World.cell?, HK0.out]); have d1 : w10.cell? ⟨w9.heap.size, 1, none⟩ = some (.int .u64 kk) := (by simp [World.cell?, HK0.out])))
          refine (plain_Tree.calls 42 K (some ad) c3 so (j : Int) kk T true w10 (Kd.C_below HSC.out (below_weaken (below_weaken (below_weaken HB8.out HB8.out.size HBJ.out) (Nat.le_trans HB8.out.size HBJ.out.size) HB9.out) (Nat.le_trans HB8.out.size (Nat.le_trans HBJ.out.size HB9.out.size)) HW0.out)) HSCC.out HTR.out).mono ?_
          rintro e w11 ⟨rfl, hb11⟩
          have HB11 := Aside0.mk (below_weaken (below_weaken HB9.out HB9.out.size HW0.out) (Nat.le_trans HB9.out.size HW0.out.size) hb11)
          have hm11 := HM8.out w11 HB11.out
          have HBJ11 := Aside0.mk (below_weaken HBJ.out HBJ.out.size HB11.out)
          clear hb11 d0 d1
          go_wp2_with (fail)
          go_roundg k3
          case measure => exact Nat.lt_succ_self _
          case rel => exact ⟨j + 1, by go_num, ⟨by have := HJ.out; omega⟩, HBJ11⟩
end Go.Proofs.Ytgooamgpojeeaaa.Pk
