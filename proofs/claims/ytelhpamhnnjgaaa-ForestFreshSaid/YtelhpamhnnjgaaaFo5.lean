/- massiflaw10: told lists; alive answers true. No condition beyond those that each theorem names. -/
import Derived.Test.YtelhpamhnnjgaaaFo4
import Derived.Outline
set_option linter.unusedVariables false
set_option linter.unusedSimpArgs false
namespace Go.Proofs.Ytelhpamhnnjgaaa.Fo
open Go.RowKit Go.Proofs.Ytelhpamhnnjgaaa.MB Go.Proofs.Ytelhpamhnnjgaaa.Pk Go.Proofs.YtelhpamhnnjgaaaW.PrintWords Go.Proofs.YtelhpamhnnjgaaaW.PrintLast Go.Proofs.YtelhpamhnnjgaaaW.PrintMore Go.Proofs.Ytelhpamhnnjgaaa.PForestFresh Go.Proofs.Ytelhpamhnnjgaaa.Ob
/-- A told list whose row is no older than B. -/
def To (w : World) (B : Nat) (v : Value) (M : List ByteArray) : Prop := Kd.string.R 9 w 0 (fun j => B ≤ j) v M
theorem To.keep {w w' : World} {B : Nat} {S : Nat → Prop} {v : Value} {M : List ByteArray} (h : To w B v M) (hk : Kp w w' S) (hS : ∀ j, S j → j < B) : To w' B v M :=
  Kd.R_step h (fun j hj hl => hk.keep j hl (fun hs => by have := hS j hs; omega))
theorem To.below {w w' : World} {B : Nat} {v : Value} {M : List ByteArray} (h : To w B v M) (hb : Below w.heap.size w w') : To w' B v M := h.keep (Kp.below (S := fun _ => False) hb) (fun _ h => h.elim)
theorem To.C {w : World} {B : Nat} {A : Option Addr} {N c : Nat} {M : List ByteArray} (h : To w B (.slice A N c) M) : N = M.length ∧ N ≤ c ∧ Kd.C Kd.string w A M.length M := by
  obtain ⟨A', c', h1, h2, h3⟩ := Kd.R_reads h
  injection h1 with h4 h5 h6
  subst h4 h5 h6
  exact ⟨rfl, h2, h3⟩
/-- Append, told. -/
theorem Appended.told {w : World} {hb : Nat} {ok : Nat → Prop} {k : Int} {l : List ByteArray} {n : Nat} {x : ByteArray} {e : Ending} {w' : World} {B : Nat} (h : Appended w hb ok k l n x e w') (hB : B ≤ w.heap.size) :
    ∃ A c, e = .returned (.tuple #[.slice A (t1 n + 1) c, .int .i64 0]) ∧ To w' B (.slice A (t1 n + 1) c) (madeL k (l ++ [x]) n (t1 n)) ∧ Fr w' hb ok k (n + 1) (fo k (l ++ [x])) ∧ Kp w w' ok := by
  obtain ⟨v, rfl, h2, h3, h4⟩ := h
  have h5 : To w' B v (madeL k (l ++ [x]) n (t1 n)) := Kd.R_mono h2 (fun j hj => Nat.le_trans hB hj)
  obtain ⟨A, c, rfl, _, _⟩ := Kd.R_reads h2
  have e := h5.C.1
  rw [madeL_len] at e h5 ⊢
  exact ⟨A, c, rfl, h5, h3, h4⟩
theorem Appended.len {k : Int} {l : List ByteArray} {n : Nat} : (madeL k l n (t1 n)).length = t1 n + 1 := madeL_len _ _ _ _
def sA : ByteArray := ⟨#[97]⟩
def sB : ByteArray := ⟨#[98]⟩
def sC : ByteArray := ⟨#[99]⟩
def dA : ByteArray := MH.lf 32 sA
def dB : ByteArray := MH.lf 32 sB
def dC : ByteArray := MH.lf 32 sC
def dN : ByteArray := MH.nd 32 dA dB
theorem two_cells {w : World} {g : Nat} {s z : ByteArray} {t : TypeId} (h : w.heap[g]? = some (.cells #[.string s, .string z] t (0, 0))) : Kd.C Kd.string w (some ⟨g, 0, none⟩) 2 [s, z] := by
  refine Kd.C_of_reads (h1 := fun _ => rfl) (d := ByteArray.empty) ⟨rfl, by simp, fun _ => ⟨⟨g, 0, none⟩, rfl, fun i hi => ?_⟩⟩
  have e : i = 0 ∨ i = 1 := by have h2 : i < 2 := hi; omega
  rcases e with rfl | rfl <;> simp [World.cell?, h, Addr.add]
theorem num_calls (a : Int) (w : World) : Calls Try.prog 11 #[.int .i64 a] w fun e w' => e = .returned (.int .i64 a) ∧ w = w' := by
  go_enter Try.func11, Try.ntmps11
  go_wp2_with (fail)
  go_ret
  exact ⟨rfl, rfl⟩
theorem t1_0 : t1 0 = 0 := by decide
theorem t1_1 : t1 1 = 1 := by decide
theorem t1_2 : t1 2 = 0 := by decide
theorem al_m1 : madeL 32 ([] ++ [sA]) 0 0 = [dA] := madeL_zero 32 [] sA
theorem al_t0 (l : List ByteArray) : MT.trB 32 ([sA, sB] ++ l) (1, 0) = dN := by
  rw [MT.trB_node, MT.trB_leaf 32 _ 0 (by simp), MT.trB_leaf 32 _ 1 (by simp)]; rfl
theorem al_m2 : madeL 32 ([sA] ++ [sB]) 1 1 = [dB, dN] := by
  have e := al_t0 []
  rw [List.append_nil] at e
  rw [madeL_succ, show madeL 32 ([sA] ++ [sB]) 1 0 = [dB] from madeL_zero 32 [sA] sB, show (1 / 2 ^ (0 + 1) : Nat) = 0 from by decide, show (0 + 1 : Nat) = 1 from rfl, show [sA] ++ [sB] = [sA, sB] from rfl, e, List.singleton_append]
theorem al_m3 : madeL 32 ([sA, sB] ++ [sC]) 2 0 = [dC] := madeL_zero 32 [sA, sB] sC
theorem al_node : fo 32 [sA, sB, sC] 1 0 = some dN := by
  have h : fo 32 [sA, sB, sC] ((1 : Nat) : Int) ((0 : Nat) : Int) = some (MT.trB 32 [sA, sB, sC] (1, 0)) := fo_in 32 [sA, sB, sC] 1 0 (by decide)
  rw [show MT.trB 32 [sA, sB, sC] (1, 0) = dN from al_t0 [sC]] at h; exact h
theorem al_root : rtD 32 [sA, sB, sC] 3 = MH.rootD 32 3 [dN, dC] := by
  unfold rtD
  rw [show mtS 3 41 = [(1, 0), (0, 2)] from by decide]
  show MH.rootD 32 3 [MT.trB 32 ([sA, sB] ++ [sC]) (1, 0), MT.trB 32 [sA, sB, sC] (0, 2)] = _
  rw [al_t0, MT.trB_leaf 32 _ 2 (by simp)]; rfl
attribute [irreducible] dA dB dC dN
theorem al_size : dA.size = 32 ∧ dB.size = 32 ∧ dC.size = 32 ∧ dN.size = 32 := by unfold dN; unfold dA dB dC; exact ⟨MH.lf_size _ _, MH.lf_size _ _, MH.lf_size _ _, MH.nd_size _ _ _⟩
set_option maxHeartbeats 4000000 in
set_option maxRecDepth 100000 in
theorem alive_calls (w : World) : Calls Try.prog 7 #[] w fun e w' => e = .returned (.bool true) ∧ Below w.heap.size w w' := by
  go_enter Try.func7, Try.ntmps7
  go_wp2_with (first | (go_at_call 11; refine (num_calls _ _).mono ?_; rintro e _ ⟨rfl, rfl⟩))
  refine (new_ok w 32 (by omega) (by omega)).mono ?_
  rintro e w1 ⟨hb, rfl, hr, hb1⟩
  have HR1 := Aside0.mk hr.bound
  have HB1 := Aside0.mk hb1
  obtain ⟨B, hB⟩ : ∃ B, B = w1.heap.size := ⟨_, rfl⟩
  rw [← hB] at HR1
  have HZ1 := Aside0.mk (Nat.le_of_eq hB)
  have HS := Aside0.mk (show ∀ j, (w.heap.size ≤ j ∧ j < B) → j < B from fun j h => h.2)
  have HWB := Aside0.mk (show w.heap.size ≤ B from by rw [hB]; exact hb1.size)
  clear hr hb1 hB
  go_wp2_with (first | (go_at_call 11; refine (num_calls _ _).mono ?_; rintro e _ ⟨rfl, rfl⟩))
  refine (append_ok w1 hb _ 32 [] sA HR1.out (by omega) (by omega) (by simp) (by decide)).mono ?_
  intro e w2 hA
  obtain ⟨A1, c1, rfl, hl, hr, hk⟩ := hA.told HZ1.out
  simp only [List.length_nil, t1_0] at hl hr ⊢
  rw [al_m1] at hl
  have HL1 := Aside0.mk hl
  have HR2 := Aside0.mk hr
  have HZ2 := Aside0.mk (Nat.le_trans HZ1.out hk.size)
  have HB2 := Aside0.mk (Kp.old HB1.out HB1.out.size hk (fun _ h => h.1))
  clear hl hr hk hA
  go_wp2_with (first | (go_at_call 11; refine (num_calls _ _).mono ?_; rintro e _ ⟨rfl, rfl⟩))
  refine (append_ok w2 hb _ 32 [sA] sB HR2.out (by omega) (by omega) (by simp) (by decide)).mono ?_
  intro e w3 hA
  obtain ⟨A2, c2, rfl, hl, hr, hk⟩ := hA.told HZ2.out
  simp only [List.length_singleton, t1_1] at hl hr ⊢
  rw [al_m2] at hl
  have HL2 := Aside0.mk hl
  have HR3 := Aside0.mk (show Fr w3 hb _ 32 2 (fo 32 [sA, sB]) from hr)
  have HL13 := Aside0.mk (HL1.out.keep hk HS.out)
  have HZ3 := Aside0.mk (Nat.le_trans HZ2.out hk.size)
  have HB3 := Aside0.mk (Kp.old HB2.out HB2.out.size hk (fun _ h => h.1))
  clear hl hr hk hA
  go_wp2_with (first | (go_at_call 11; refine (num_calls _ _).mono ?_; rintro e _ ⟨rfl, rfl⟩))
  refine (append_ok w3 hb _ 32 [sA, sB] sC HR3.out (by omega) (by omega) (by simp) (by decide)).mono ?_
  intro e w4 hA
  obtain ⟨A3, c3, rfl, hl, hr, hk⟩ := hA.told HZ3.out
  simp only [show [sA, sB].length = 2 from rfl, t1_2] at hl hr ⊢
  rw [al_m3] at hl
  have HL34 := Aside0.mk hl
  have HR4 := Aside0.mk (show Fr w4 hb _ 32 3 (fo 32 [sA, sB, sC]) from hr)
  have HL14 := Aside0.mk (HL13.out.keep hk HS.out)
  have HL24 := Aside0.mk (HL2.out.keep hk HS.out)
  have HB4 := Aside0.mk (Kp.old HB3.out HB3.out.size hk (fun _ h => h.1))
  clear hl hr hk hA
  obtain ⟨-, hc1, hC1⟩ := HL14.out.C
  obtain ⟨-, hc2, hC2⟩ := HL24.out.C
  obtain ⟨-, hc3, hC3⟩ := HL34.out.C
  obtain ⟨a1, e1, hx1⟩ := Kd.at_string hC1 0 (by omega) (by simp)
  obtain ⟨a2, e2, hx2⟩ := Kd.at_string hC2 0 (by omega) (by simp)
  obtain ⟨a2', e2', hx2b⟩ := Kd.at_string hC2 1 (by omega) (by simp)
  obtain ⟨a3, e3, hx3⟩ := Kd.at_string hC3 0 (by omega) (by simp)
  cases e1
  cases e2
  cases e2'
  cases e3
  obtain ⟨zA, hzA⟩ : ∃ z, z = dA := ⟨_, rfl⟩
  obtain ⟨zB, hzB⟩ : ∃ z, z = dB := ⟨_, rfl⟩
  obtain ⟨zC, hzC⟩ : ∃ z, z = dC := ⟨_, rfl⟩
  obtain ⟨zN, hzN⟩ : ∃ z, z = dN := ⟨_, rfl⟩
  have x1 : w4.cell? a1 = some (.string zA) := by have h : w4.cell? (a1.add 0) = some (.string dA) := hx1; rw [hzA, ← h]; simp [Addr.add]
  have x2 : w4.cell? a2 = some (.string zB) := by have h : w4.cell? (a2.add 0) = some (.string dB) := hx2; rw [hzB, ← h]; simp [Addr.add]
  have x2b : w4.cell? ⟨a2.block, a2.off + 1, none⟩ = some (.string zN) := by have h : w4.cell? (a2.add 1) = some (.string dN) := hx2b; rw [hzN, ← h]; simp [Addr.add]
  have x3 : w4.cell? a3 = some (.string zC) := by have h : w4.cell? (a3.add 0) = some (.string dC) := hx3; rw [hzC, ← h]; simp [Addr.add]
  have sz : ((zA.size : Int) != 32) = false := by rw [hzA, al_size.1]; rfl
  have HN := Aside0.mk (show ∀ W, Calls Try.prog 19 #[.int .i64 32, .string zA, .string zB] W fun e w' => e = .returned (.string zN) ∧ Below W.heap.size W w' from fun W => by
    rw [hzN, hzA, hzB, dN]; exact node_calls 32 dA dB W (by rw [al_size.1]; omega) (by rw [al_size.2.1]; omega))
  have HLC := Aside0.mk (show ∀ W, Calls Try.prog 24 #[.int .i64 32, .string sC] W fun e w' => e = .returned (.string zC) ∧ Below W.heap.size W w' from fun W => by
    rw [hzC, dC]; exact leaf_calls 32 sC W (by decide))
  have HEN := Aside0.mk hzN
  have HEC := Aside0.mk hzC
  clear hx1 hx2 hx2b hx3 hC1 hC2 hC3 hc1 hc2 hc3 hzA hzB hzC hzN
  go_wp2_with (first | (go_at_call 11; refine (num_calls _ _).mono ?_; rintro e _ ⟨rfl, rfl⟩))
  go_wp2_with (first | (go_at_call 11; refine (num_calls _ _).mono ?_; rintro e _ ⟨rfl, rfl⟩))
  have HR4d := Aside0.mk HR4.out
  go_region_held3 (fun w' => w'.cell? a1 = some (.string zA) ∧ w'.cell? a2 = some (.string zB) ∧ w'.cell? ⟨a2.block, a2.off + 1, none⟩ = some (.string zN) ∧ w'.cell? a3 = some (.string zC)) (first | exact ⟨x1, x2, x2b, x3⟩ | exact ⟨y1, y2, y3, y4⟩ | exact ⟨z1, z2, z3, z4⟩ | go_keep)
    (first | (go_at_call 11; refine (num_calls _ _).mono ?_; rintro e _ ⟨rfl, rfl⟩) | (go_at_call 19; refine (HN.out _).mono ?_; rintro e w5 ⟨rfl, hb5⟩; have y1 := (hb5.cell (World.block_lt_of_cell? _ _ x1)).trans x1; have y2 := (hb5.cell (World.block_lt_of_cell? _ _ x2)).trans x2; have y3 := (hb5.cell (World.block_lt_of_cell? _ _ x2b)).trans x2b; have y4 := (hb5.cell (World.block_lt_of_cell? _ _ x3)).trans x3; have HB5 := Aside0.mk (below_weaken (below_drew HB4.out) HB4.out.size hb5); have HR5 := Aside0.mk (HR4.out.below (w1 := w5) (below_weaken (below_drew (Below.refl _ _)) (Nat.le_refl _) hb5)); clear hb5) | (go_at_call 24; refine (HLC.out _).mono ?_; rintro e w6 ⟨rfl, hb6⟩; have z1 := (hb6.cell (World.block_lt_of_cell? _ _ y1)).trans y1; have z2 := (hb6.cell (World.block_lt_of_cell? _ _ y2)).trans y2; have z3 := (hb6.cell (World.block_lt_of_cell? _ _ y3)).trans y3; have z4 := (hb6.cell (World.block_lt_of_cell? _ _ y4)).trans y4; have HB6 := Aside0.mk (below_weaken HB5.out HB5.out.size hb6); have HR6 := Aside0.mk (HR5.out.below hb6); clear hb6))
  have HY6 := Aside0.mk z3
  have HW6 := Aside0.mk z4
  clear x1 x2 x2b x3 sz y1 y2 y3 y4 z1 z2 z3 z4
  go_wp2_with (first | (go_at_call 11; refine (num_calls _ _).mono ?_; rintro e _ ⟨rfl, rfl⟩))
  refine (node_in w6 hb _ 32 3 _ HR6.out (by omega) 1 0 ⟨by omega, by omega⟩ 2 (by decide) (by decide)).mono ?_
  rw [show fo 32 [sA, sB, sC] ((1 : Nat) : Int) ((0 : Nat) : Int) = some zN from by rw [HEN.out]; exact al_node]
  rintro e w7 ⟨rfl, hb7⟩
  have HR7 := Aside0.mk (HR6.out.below hb7)
  have HB7 := Aside0.mk (below_weaken HB6.out HB6.out.size hb7)
  have HY7 := Aside0.mk ((hb7.cell (World.block_lt_of_cell? _ _ HY6.out)).trans HY6.out)
  have HW7 := Aside0.mk ((hb7.cell (World.block_lt_of_cell? _ _ HW6.out)).trans HW6.out)
  clear hb7
  go_wp2_with (first | (go_at_call 11; refine (num_calls _ _).mono ?_; rintro e _ ⟨rfl, rfl⟩))
  refine (node_out w7 hb _ 32 3 _ HR7.out (by omega) 4 (by decide)).mono ?_
  rintro e w8 ⟨rfl, hb8⟩
  have HR8 := Aside0.mk (HR7.out.below hb8)
  have HB8 := Aside0.mk (below_weaken HB7.out HB7.out.size hb8)
  have HY8 := Aside0.mk ((hb8.cell (World.block_lt_of_cell? _ _ HY7.out)).trans HY7.out)
  have HW8 := Aside0.mk ((hb8.cell (World.block_lt_of_cell? _ _ HW7.out)).trans HW7.out)
  clear hb8
  go_wp2_with (first | (go_at_call 11; refine (num_calls _ _).mono ?_; rintro e _ ⟨rfl, rfl⟩))
  refine (root_calls w8 hb _ 32 [sA, sB, sC] HR8.out (by simp) 3 (by simp)).mono ?_
  obtain ⟨D, hD⟩ : ∃ D, D = rtD 32 [sA, sB, sC] 3 := ⟨_, rfl⟩
  rw [← hD]
  have HD := Aside0.mk hD
  clear hD
  rintro e w9 ⟨rfl, hb9⟩
  have HR9 := Aside0.mk (HR8.out.below hb9)
  have HB9 := Aside0.mk (below_weaken HB8.out HB8.out.size hb9)
  have HY9 := Aside0.mk ((hb9.cell (World.block_lt_of_cell? _ _ HY8.out)).trans HY8.out)
  have HW9 := Aside0.mk ((hb9.cell (World.block_lt_of_cell? _ _ HW8.out)).trans HW8.out)
  clear hb9
  go_wp2_with (first | (go_at_call 11; refine (num_calls _ _).mono ?_; rintro e _ ⟨rfl, rfl⟩))
  obtain ⟨wc, hwc⟩ : ∃ wc, wc = w9.alloc (.cells #[.int .u64 3, .string D] 34) := ⟨_, rfl⟩
  have hbc : Below w9.heap.size w9 wc := by rw [hwc]; exact below_alloc (Below.refl _ _) _
  have HKc := Aside0.mk (show wc.heap[w9.heap.size]? = some (.cells #[.int .u64 3, .string D] 34) from by rw [hwc]; exact blk_new _ _)
  have HRc := Aside0.mk (HR9.out.below hbc)
  have HBc := Aside0.mk (below_weaken HB9.out HB9.out.size hbc)
  have HYc := Aside0.mk ((hbc.cell (World.block_lt_of_cell? _ _ HY9.out)).trans HY9.out)
  have HWc := Aside0.mk ((hbc.cell (World.block_lt_of_cell? _ _ HW9.out)).trans HW9.out)
  obtain ⟨gc, hgc⟩ : ∃ gc, gc = w9.heap.size := ⟨_, rfl⟩
  rw [← hgc] at HKc ⊢
  rw [← hwc]
  clear hwc hbc hgc
  refine (root_no wc hb _ 32 3 _ HRc.out 4 (by omega)).mono ?_
  rintro e w10 ⟨rfl, hb10⟩
  have HR10 := Aside0.mk (HRc.out.below hb10)
  have HB10 := Aside0.mk (below_weaken HBc.out HBc.out.size hb10)
  have HY10 := Aside0.mk ((hb10.cell (World.block_lt_of_cell? _ _ HYc.out)).trans HYc.out)
  have HW10 := Aside0.mk ((hb10.cell (World.block_lt_of_cell? _ _ HWc.out)).trans HWc.out)
  have HK10 := Aside0.mk (blk_below HKc.out hb10)
  clear hb10
  go_wp2_with (first | (go_at_call 11; refine (num_calls _ _).mono ?_; rintro e _ ⟨rfl, rfl⟩))
  obtain ⟨wd, hwd⟩ : ∃ wd, wd = w10.alloc (.cells #[.int .u64 0, .string ⟨#[]⟩] 34) := ⟨_, rfl⟩
  have hbd : Below w10.heap.size w10 wd := by rw [hwd]; exact below_alloc (Below.refl _ _) _
  have HKd := Aside0.mk (blk_below HK10.out hbd)
  have HRd := Aside0.mk (HR10.out.below hbd)
  have HBd := Aside0.mk (below_weaken HB10.out HB10.out.size hbd)
  have HYd := Aside0.mk ((hbd.cell (World.block_lt_of_cell? _ _ HY10.out)).trans HY10.out)
  have HWd := Aside0.mk ((hbd.cell (World.block_lt_of_cell? _ _ HW10.out)).trans HW10.out)
  rw [← hwd]
  clear hwd hbd
  refine (new_no wd 33 (by omega)).mono ?_
  rintro e w11 ⟨rfl, hb11⟩
  have HR11 := Aside0.mk (HRd.out.below hb11)
  have HB11 := Aside0.mk (below_weaken HBd.out HBd.out.size hb11)
  have HY11 := Aside0.mk ((hb11.cell (World.block_lt_of_cell? _ _ HYd.out)).trans HYd.out)
  have HW11 := Aside0.mk ((hb11.cell (World.block_lt_of_cell? _ _ HWd.out)).trans HWd.out)
  have HK11 := Aside0.mk (blk_below HKd.out hb11)
  clear hb11
  go_wp2_with (first | (go_at_call 11; refine (num_calls _ _).mono ?_; rintro e _ ⟨rfl, rfl⟩))
  have q1 : w11.drew.cell? ⟨a2.block, a2.off + 1, none⟩ = some (.string zN) := HY11.out
  have q2 : w11.drew.cell? a3 = some (.string zC) := HW11.out
  have q3 : w11.drew.cell? ⟨gc, 0, none⟩ = some (.int .u64 3) := (show w11.cell? ⟨gc, 0, none⟩ = some (.int .u64 3) from by have h := HK11.out; simp [World.cell?, h])
  have q4 : w11.drew.cell? ⟨gc, 1, none⟩ = some (.string D) := (show w11.cell? ⟨gc, 1, none⟩ = some (.string D) from by have h := HK11.out; simp [World.cell?, h])
  have p1 : (w11.alloc (.cells #[.string zN, .string zC] 9)).drew.cell? ⟨a2.block, a2.off + 1, none⟩ = some (.string zN) := ((below_alloc (Below.refl w11.heap.size w11) (.cells #[.string zN, .string zC] 9)).cell (World.block_lt_of_cell? _ _ (show w11.cell? ⟨a2.block, a2.off + 1, none⟩ = some (.string zN) from q1))).trans q1
  have p2 : (w11.alloc (.cells #[.string zN, .string zC] 9)).drew.cell? a3 = some (.string zC) := ((below_alloc (Below.refl w11.heap.size w11) (.cells #[.string zN, .string zC] 9)).cell (World.block_lt_of_cell? _ _ (show w11.cell? a3 = some (.string zC) from q2))).trans q2
  have p3 : (w11.alloc (.cells #[.string zN, .string zC] 9)).drew.cell? ⟨gc, 0, none⟩ = some (.int .u64 3) := ((below_alloc (Below.refl w11.heap.size w11) (.cells #[.string zN, .string zC] 9)).cell (World.block_lt_of_cell? _ _ (show w11.cell? ⟨gc, 0, none⟩ = some (.int .u64 3) from q3))).trans q3
  have p4 : (w11.alloc (.cells #[.string zN, .string zC] 9)).drew.cell? ⟨gc, 1, none⟩ = some (.string D) := ((below_alloc (Below.refl w11.heap.size w11) (.cells #[.string zN, .string zC] 9)).cell (World.block_lt_of_cell? _ _ (show w11.cell? ⟨gc, 1, none⟩ = some (.string D) from q4))).trans q4
  have HRT := Aside0.mk (show hash_Root.f 10 32 3 [zN, zC] = some D from by
    rw [HD.out, al_root, HEN.out, HEC.out]
    exact hash_Root.is 10 32 3 [dN, dC] 32 (by omega) (by omega) (fun s hs => by simp at hs; rcases hs with rfl | rfl; rw [al_size.2.2.2]; omega; rw [al_size.2.2.1]; omega) (by simp) (by simp))
  have HB12 := Aside0.mk (below_drew (below_alloc HB11.out (.cells #[.string zN, .string zC] 9)))
  have HK12 := Aside0.mk (two_cells (w := (w11.alloc (.cells #[.string zN, .string zC] 9)).drew) (t := 9) (blk_new w11 (.cells #[.string zN, .string zC] 9)))
  have HR12 := Aside0.mk (HR11.out.below (below_drew (below_alloc (Below.refl _ _) (.cells #[.string zN, .string zC] 9))))
  go_region_held3 (fun w' => w'.cell? ⟨a2.block, a2.off + 1, none⟩ = some (.string zN) ∧ w'.cell? a3 = some (.string zC) ∧ w'.cell? ⟨gc, 0, none⟩ = some (.int .u64 3) ∧ w'.cell? ⟨gc, 1, none⟩ = some (.string D)) (first | exact ⟨q1, q2, q3, q4⟩ | exact ⟨p1, p2, p3, p4⟩ | exact ⟨r1, r2, r3, r4⟩ | exact ⟨s1, s2, s3, s4⟩ | go_keep)
    (first | (go_at_call 11; refine (num_calls _ _).mono ?_; rintro e _ ⟨rfl, rfl⟩) | (go_at_call 27; refine (hash_Root.calls 10 32 3 _ _ [zN, zC] D _ HK12.out (Nat.le_refl _) HRT.out).mono ?_; rintro e w13 ⟨rfl, hb13⟩; have r1 := (hb13.cell (World.block_lt_of_cell? _ _ p1)).trans p1; have r2 := (hb13.cell (World.block_lt_of_cell? _ _ p2)).trans p2; have r3 := (hb13.cell (World.block_lt_of_cell? _ _ p3)).trans p3; have r4 := (hb13.cell (World.block_lt_of_cell? _ _ p4)).trans p4; have HB13 := Aside0.mk (below_weaken HB12.out HB12.out.size hb13); have HR13 := Aside0.mk (HR12.out.below hb13); clear hb13) | (go_at_call 14; refine (size_calls _ hb _ 32 3 _ HR13.out).mono ?_; rintro e w14 ⟨rfl, hb14⟩; have s1 := (hb14.cell (World.block_lt_of_cell? _ _ r1)).trans r1; have s2 := (hb14.cell (World.block_lt_of_cell? _ _ r2)).trans r2; have s3 := (hb14.cell (World.block_lt_of_cell? _ _ r3)).trans r3; have s4 := (hb14.cell (World.block_lt_of_cell? _ _ r4)).trans r4; have HB14 := Aside0.mk (below_weaken HB13.out HB13.out.size hb14); clear hb14))
  clear q1 q2 q3 q4 p1 p2 p3 p4 r1 r2 r3 r4 s1 s2 s3 s4
  go_wp2_with (fail)
  go_ret
  exact ⟨rfl, HB14.out⟩
end Go.Proofs.Ytelhpamhnnjgaaa.Fo
