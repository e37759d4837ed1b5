/- massiflaw09: alive answers true. No condition. -/
import Derived.Test.YtdclafjgfnbibaaPk6
import Derived.Outline
set_option linter.unusedVariables false
set_option linter.unusedSimpArgs false
namespace Go.Proofs.Ytdclafjgfnbibaa.Pk
open Go.RowKit Go.Proofs.Ytdclafjgfnbibaa.MB Go.Proofs.YtdclafjgfnbibaaW.PrintWords Go.Proofs.YtdclafjgfnbibaaW.PrintLast Go.Proofs.YtdclafjgfnbibaaW.PrintMore Go.Proofs.Ytdclafjgfnbibaa.PPeaksRefused Go.Proofs.Ytdclafjgfnbibaa.Ob
theorem massiflaw09_same.run (l : List ByteArray) (hl : l.length ≤ 140737488351232) : ∀ (d i K : Nat), i + d = l.length → d < K → massiflaw09_same.l0 K l l (i : Int) = some true := by
  intro d
  induction d with
  | zero =>
    intro i K h hK
    obtain ⟨K, rfl⟩ : ∃ m, K = m + 1 := ⟨K - 1, by omega⟩
    rw [massiflaw09_same.l0, if_neg (by omega)]
  | succ d ih =>
    intro i K h hK
    obtain ⟨K, rfl⟩ : ∃ m, K = m + 1 := ⟨K - 1, by omega⟩
    have e : wrap64 ((i : Int) + 1) = ((i + 1 : Nat) : Int) := by rw [IntWalk.wrap64_in _ (by omega)]; omega
    rw [massiflaw09_same.l0, if_pos (by omega), if_pos (by omega), if_pos (by omega), if_pos rfl, e]
    exact ih (i + 1) K (by omega) (by omega)
theorem massiflaw09_same.is (K : Nat) (l : List ByteArray) (hl : l.length ≤ 140737488351232) (hK : l.length < K) : massiflaw09_same.f K l l = some true := by
  unfold massiflaw09_same.f
  rw [if_pos rfl]
  exact massiflaw09_same.run l hl l.length 0 K (by omega) hK
theorem one_cell {w : World} {g : Nat} {s : ByteArray} {t : TypeId} (h : w.heap[g]? = some (.cells #[.string s] t (0, 0))) : Kd.C Kd.string w (some ⟨g, 0, none⟩) 1 [s] := by
  refine Kd.C_of_reads (h1 := fun _ => rfl) (d := ByteArray.empty) ⟨rfl, by simp, fun _ => ⟨⟨g, 0, none⟩, rfl, fun i hi => ?_⟩⟩
  have e : i = 0 := by simp at hi; omega
  subst e
  simp [World.cell?, h, Addr.add]
def sAA : ByteArray := ⟨#[97, 97]⟩
def sBB : ByteArray := ⟨#[98, 98]⟩
def sC : ByteArray := ⟨#[99]⟩
theorem t1_0 : t1 0 = 0 := by decide
theorem t1_1 : t1 1 = 1 := by decide
theorem al_e1 : opE 2 0 0 sAA = 0 := by decide
theorem al_e2 : opE 2 1 0 sBB = 0 := by decide
theorem al_e3 : opE 2 2 0 sC = 90 := by decide
theorem al_n1 : opN 2 0 0 sAA = 1 := by unfold opN; rw [if_pos al_e1]; rfl
theorem al_n2 : opN 2 1 0 sBB = 2 := by unfold opN; rw [if_pos al_e2]; rfl
theorem al_m1 : opM 2 0 [] 0 sAA = [sAA] := by
  unfold opM; rw [if_pos al_e1]
  show mades 2 [] sAA (t1 0) = _
  rw [t1_0]; rfl
theorem al_l1 : opL 2 0 [] 0 sAA = [sAA] := by
  unfold opL; rw [if_pos al_e1]
  show carL 2 [] sAA (t1 0) = _
  rw [t1_0]; rfl
theorem al_m2 : opM 2 1 [sAA] 0 sBB = [sBB, MH.nd 2 sAA sBB] := by
  unfold opM; rw [if_pos al_e2]
  show mades 2 [sAA] sBB (t1 1) = _
  rw [t1_1]; rfl
theorem al_l2 : opL 2 1 [sAA] 0 sBB = [MH.nd 2 sAA sBB] := by
  unfold opL; rw [if_pos al_e2]
  show carL 2 [sAA] sBB (t1 1) = _
  rw [t1_1]; rfl
theorem inv0 (k : Int) (h1 : 1 ≤ k) (h2 : k ≤ 32) : Inv k 0 [] := ⟨h1, h2, by omega, by rw [MB.ones_zero]; rfl, fun s hs => by cases hs⟩
theorem al_i1 : Inv 2 1 [sAA] := by have := (inv0 2 (by omega) (by omega)).op 0 sAA; rw [al_n1, al_l1] at this; exact this
theorem al_i2 : Inv 2 2 [MH.nd 2 sAA sBB] := by have := al_i1.op 0 sBB; rw [al_n2, al_l2] at this; exact this
theorem al_n3 : opN 2 2 0 sC = 2 := by unfold opN; rw [al_e3, if_neg (by omega)]
theorem al_l3 {z : ByteArray} : opL 2 2 [z] 0 sC = [z] := by unfold opL; rw [al_e3, if_neg (by omega)]
set_option maxHeartbeats 4000000 in
set_option maxRecDepth 100000 in
theorem alive_calls (w : World) : Calls Try.prog 6 #[] w fun e w' => e = .returned (.bool true) ∧ Below w.heap.size w w' := by
  go_enter Try.func6, Try.ntmps6
  go_wp2_with (fail)
  refine (new_ok w 2 (by omega) (by omega)).mono ?_
  rintro e w1 ⟨hb, rfl, hle, hr, hb1⟩
  have HR1 := Aside0.mk hr
  have HL := Aside0.mk hle
  have HB1 := Aside0.mk hb1
  clear hr hle hb1
  go_wp2_with (fail)
  refine (add_calls w1 hb _ 2 0 [] sAA HR1.out (inv0 2 (by omega) (by omega))).mono ?_
  intro e w2 hA
  obtain ⟨A1, N1, c1, rfl, _, hl, hr, hk⟩ := hA.told
  rw [al_m1] at hl
  rw [al_n1, al_l1] at hr
  rw [al_e1]
  have HL1 := Aside0.mk hl
  have HR2 := Aside0.mk hr
  have HB2 := Aside0.mk (Kp.old HB1.out HB1.out.size hk (fun _ h => h))
  clear hl hr hk hA
  go_wp2_with (fail)
  refine (add_calls w2 hb _ 2 1 [sAA] sBB HR2.out al_i1).mono ?_
  intro e w3 hA
  obtain ⟨A2, N2, c2, rfl, _, hl, hr, hk⟩ := hA.told
  rw [al_m2] at hl
  rw [al_n2, al_l2] at hr
  rw [al_e2]
  obtain ⟨z, hz⟩ : ∃ z, z = MH.nd 2 sAA sBB := ⟨_, rfl⟩
  rw [← hz] at hl hr
  have HZ := Aside0.mk hz
  have HL2 := Aside0.mk hl
  have HR3 := Aside0.mk hr
  have HL13 := Aside0.mk (HL1.out.next (u := .slice A2 N2 c2) hk)
  have HB3 := Aside0.mk (Kp.old HB2.out HB2.out.size hk (fun j h => by have := HB1.out.size; rcases h with h | h; exact h.1; omega))
  clear hl hr hk hA hz
  go_wp2_with (fail)
  refine (add_calls w3 hb _ 2 2 [z] sC HR3.out (by rw [HZ.out]; exact al_i2)).mono ?_
  intro e w4 hA
  obtain ⟨A3, N3, c3, rfl, _, hl, hr, hk⟩ := hA.told
  rw [al_n3, al_l3] at hr
  rw [al_e3]
  have HR4 := Aside0.mk hr
  have HL14 := Aside0.mk (HL13.out.next (u := .slice A3 N3 c3) hk)
  have HL24 := Aside0.mk (HL2.out.next (u := .slice A3 N3 c3) hk)
  have HB4 := Aside0.mk (Kp.old HB3.out HB3.out.size hk (fun j h => by have := HB1.out.size; have := HB2.out.size; rcases h with h | h; rcases h.1 with h | h; exact h.1; omega; omega))
  clear hl hr hk hA
  go_wp2_with (fail)
  refine (node_calls 2 (by omega) sAA sBB w4 (by decide) (by decide)).mono ?_
  rw [← HZ.out]
  rintro e w5 ⟨rfl, hb5⟩
  have HR5 := Aside0.mk (HR4.out.below hb5)
  have HL15 := Aside0.mk (HL14.out.below hb5)
  have HL25 := Aside0.mk (HL24.out.below hb5)
  have HB5 := Aside0.mk (below_weaken HB4.out HB4.out.size hb5)
  clear hb5
  go_wp2_with (fail)
  refine (new_strength w5 33 (by omega)).mono ?_
  rintro e w6 ⟨rfl, hb6⟩
  have HR6 := Aside0.mk (HR5.out.below hb6)
  have HL16 := Aside0.mk (HL15.out.below hb6)
  have HL26 := Aside0.mk (HL25.out.below hb6)
  have HB6 := Aside0.mk (below_weaken HB5.out HB5.out.size hb6)
  clear hb6
  obtain ⟨hN1, hc1, hC1⟩ := HL16.out.C
  obtain ⟨hN2, hc2, hC2⟩ := HL26.out.C
  obtain ⟨a1, e1, hx1⟩ := Kd.at_string hC1 0 (by omega) (by simp)
  obtain ⟨a2, e2, hx2⟩ := Kd.at_string hC2 1 (by omega) (by simp)
  cases e1
  cases e2
  have hx0' : w6.cell? (a1.add 0) = some (.string ⟨#[97, 97]⟩) := hx1
  have hx1' : w6.cell? a1 = some (.string ⟨#[97, 97]⟩) := by rw [← hx0']; simp [Addr.add]
  have hx2' : w6.cell? ⟨a2.block, a2.off + 1, none⟩ = some (.string z) := by have h : w6.cell? (a2.add 1) = some (.string z) := hx2; rw [← h]; simp [Addr.add]
  have HZS := Aside0.mk (show z.size = 2 from by rw [HZ.out, MH.nd_size]; decide)
  have hzs : ((z.size : Int) == 2) = true := by rw [HZS.out]; rfl
  obtain rfl : N1 = 1 := hN1
  obtain rfl : N2 = 2 := hN2
  clear hx1 hx2 hC1 hC2 hc1 hc2
  go_wp2_with (fail)
  refine (size_calls w6 hb _ 2 _ _ HR6.out).mono ?_
  rintro e w7 ⟨rfl, hb7⟩
  have HR7 := Aside0.mk (HR6.out.below hb7)
  have HB7 := Aside0.mk (below_weaken HB6.out HB6.out.size hb7)
  clear hb7
  go_wp2_with (fail)
  refine (peaks_calls w7 hb _ 2 _ [z] HR7.out (by simp)).mono ?_
  rintro e w8 ⟨v8, rfl, hr8, hb8⟩
  obtain ⟨A8, c8, e8, hcc8, hC8⟩ := Kd.R_reads hr8
  subst e8
  have HC8 := Aside0.mk hC8
  have HCC8 := Aside0.mk hcc8
  have HR8 := Aside0.mk (HR7.out.below hb8)
  have HB8 := Aside0.mk (below_weaken HB7.out HB7.out.size hb8)
  clear hb8 hr8 hC8 hcc8
  go_wp2_with (fail)
  refine (massiflaw09_same.calls 10 A8 c8 [z] _ _ [z] true _ (Kd.C_alloc HC8.out _) HCC8.out (one_cell (blk_new _ _)) (by simp) (massiflaw09_same.is 10 [z] (by simp) (by simp))).mono ?_
  rintro e w9 ⟨rfl, hd9⟩
  have hb9 := below_weaken (below_alloc (Below.refl w8.heap.size w8) (.cells #[.string z] 9)) (by simp) hd9.below
  have HR9 := Aside0.mk (HR8.out.below hb9)
  have HB9 := Aside0.mk (below_weaken HB8.out HB8.out.size hb9)
  clear hd9 hb9
  have hrt := hash_Root.is 10 2 2 [z] 32 (by omega) (by omega) (fun s hs => by rw [List.mem_singleton.1 hs, HZS.out]; omega) (by simp) (by simp)
  obtain ⟨D, hD⟩ : ∃ D, D = MH.rootD 2 2 [z] := ⟨_, rfl⟩
  rw [← hD] at hrt
  have HRT := Aside0.mk hrt
  clear hrt hD
  go_wp2_with (fail)
  refine (root_calls 10 w9 hb _ 2 2 [z] D HR9.out HRT.out).mono ?_
  rintro e w10 ⟨rfl, hb10⟩
  have HB10 := Aside0.mk (below_weaken HB9.out HB9.out.size hb10)
  clear hb10
  go_wp2_with (fail)
  refine (hash_Root.calls 10 2 2 _ _ [z] D _ (one_cell (blk_new _ _)) (by simp) HRT.out).mono ?_
  rintro e w11 ⟨rfl, hb11⟩
  have HB11 := Aside0.mk (below_weaken (below_alloc HB10.out (.cells #[.string z] 9)) (Nat.le_trans HB10.out.size (by simp)) hb11)
  clear hb11
  go_wp2_with (fail)
  go_ret
  exact ⟨rfl, HB11.out⟩
end Go.Proofs.Ytdclafjgfnbibaa.Pk
