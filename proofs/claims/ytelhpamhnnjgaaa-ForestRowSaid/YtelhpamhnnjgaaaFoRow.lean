/- massiflaw10.ForestRow: the walk. No condition beyond those that each theorem names. -/
import Derived.Test.YtelhpamhnnjgaaaFoGrow
import Derived.Test.YtelhpamhnnjgaaaFoR1
set_option linter.unusedVariables false
set_option linter.unusedSimpArgs false
namespace Go.Proofs.Ytelhpamhnnjgaaa.Fo
open Go.RowKit Go.Proofs.Ytelhpamhnnjgaaa.MB Go.Proofs.Ytelhpamhnnjgaaa.Pk Go.Proofs.YtelhpamhnnjgaaaW.PrintWords Go.Proofs.YtelhpamhnnjgaaaW.PrintLast Go.Proofs.YtelhpamhnnjgaaaW.PrintMore Go.Proofs.Ytelhpamhnnjgaaa.PForestPlain Go.Proofs.Ytelhpamhnnjgaaa.Ob
theorem rtD_size (k : Int) (l : List ByteArray) (n : Nat) (hk : 1 ≤ k ∧ k ≤ 32) : ((rtD k l n).size : Int) = k := by
  unfold rtD MH.rootD; rw [MH.dig_size]; exact MH.hK_of k hk
theorem fewF_C {w : World} {A : Option Addr} {l : List ByteArray} (h : Kd.C Kd.string w A l.length l) : Kd.C Kd.string w A (fewF l).length (fewF l) := by
  unfold fewF; split
  · exact Kd.C_take h (by omega)
  · exact h
set_option maxHeartbeats 4000000 in
set_option maxRecDepth 100000 in
theorem row_calls (w : World) (a0 : Int) (A : Option Addr) (c : Nat) (l : List ByteArray) (hC : Kd.C Kd.string w A l.length l) (hc : l.length ≤ c) :
    Calls Try.prog 3 #[.int .i64 a0, .slice A l.length c] w fun e w' => e = .returned (.bool true) ∧ Below w.heap.size w w' := by
  obtain ⟨k, hk, k1, k2⟩ := strength_is a0
  have HK := Aside0.mk hk
  have HK2 := Aside0.mk (And.intro k1 k2)
  have HC := Aside0.mk hC
  have HCC := Aside0.mk hc
  clear hk k1 k2 hC hc
  go_enter Try.func3, Try.ntmps3
  go_wp2_with (fail)
  refine (alive_calls _).mono ?_
  rintro e w1 ⟨rfl, hb1⟩
  have HB1 := Aside0.mk hb1
  clear hb1
  go_wp2_with (fail)
  refine (massiflaw10_strength.calls a0 k _ HK.out).mono ?_
  rintro e w2 ⟨rfl, hd2⟩
  have HB2 := Aside0.mk (below_weaken HB1.out HB1.out.size hd2.below)
  clear hd2
  go_wp2_with (fail)
  refine (few_calls w2 A c l (Kd.C_below HC.out HB2.out) HCC.out).mono ?_
  rintro e w3 ⟨rfl, hC3, hc3, hb3⟩
  have HB3 := Aside0.mk (below_weaken HB2.out HB2.out.size hb3)
  have HC3 := Aside0.mk hC3
  have HCC3 := Aside0.mk hc3
  obtain ⟨f, hf⟩ : ∃ f, f = fewF l := ⟨_, rfl⟩
  have HFL := Aside0.mk (show f.length ≤ 70 from by rw [hf]; exact fewF_len l)
  have HC0 := Aside0.mk (show Kd.C Kd.string w A f.length f from by rw [hf]; exact fewF_C HC.out)
  rw [← hf] at HC3 HCC3 ⊢
  clear hb3 hC3 hc3 hf
  go_wp2_with (fail)
  refine (new_ok w3 k HK2.out.1 HK2.out.2).mono ?_
  rintro e w4 ⟨hb, rfl, hr, hb4⟩
  obtain ⟨B, hB⟩ : ∃ B, B = w4.heap.size := ⟨_, rfl⟩
  have hr4 := hr.bound
  rw [← hB] at hr4
  have HR4 := Aside0.mk hr4
  have HB4 := Aside0.mk (below_weaken HB3.out HB3.out.size hb4)
  have HZ3 := Aside0.mk HB3.out.size
  have HWB := Aside0.mk (show w3.heap.size ≤ B from by rw [hB]; exact hb4.size)
  have HBW := Aside0.mk (Nat.le_of_eq hB)
  clear hr hr4 hb4 hB
  go_wp2_with (first | (go_at_call 11; refine (num_calls _ _).mono ?_; rintro e _ ⟨rfl, rfl⟩))
  have hrc := root_calls w4 hb _ k [] HR4.out (by simp) 0 (by simp)
  obtain ⟨D0, hD0⟩ : ∃ D0, D0 = rtD k [] 0 := ⟨_, rfl⟩
  rw [← hD0] at hrc
  refine hrc.mono ?_
  clear hrc
  rintro e w5 ⟨rfl, hb5⟩
  obtain ⟨w6, hw6⟩ : ∃ w6, w6 = w5.alloc (.cells #[.int .u64 0, .string D0] 34) := ⟨_, rfl⟩
  have hb6 : Below w5.heap.size w5 w6 := by rw [hw6]; exact below_alloc (Below.refl _ _) _
  have HK6 := Aside0.mk (show w6.heap[w5.heap.size]? = some (.cells #[.int .u64 0, .string D0] 34 (0, 0)) from by rw [hw6]; exact blk_new _ _)
  have HR6 := Aside0.mk ((HR4.out.below hb5).below hb6)
  have HB6 := Aside0.mk (below_weaken (below_weaken HB4.out HB4.out.size hb5) (Nat.le_trans HB4.out.size hb5.size) hb6)
  have HBg := Aside0.mk (show B ≤ w5.heap.size from Nat.le_trans HBW.out hb5.size)
  have HZ6 := Aside0.mk (show w5.heap.size < w6.heap.size from blkLt HK6.out)
  have HD0 := Aside0.mk hD0
  have x1 : w6.cell? ⟨w5.heap.size, 0, none⟩ = some (.int .u64 0) := by have h := HK6.out; unfold World.cell?; rw [h]; rfl
  have x2 : w6.cell? ⟨w5.heap.size, 1, none⟩ = some (.string D0) := by have h := HK6.out; unfold World.cell?; rw [h]; rfl
  rw [hw6] at x1 x2
  clear hb5 hb6 hD0
  go_wp2_with (first | (go_at_call 11; refine (num_calls _ _).mono ?_; rintro e _ ⟨rfl, rfl⟩) | ((with_reducible refine gate_builtin (b := .append) (xs := #[.tmp 56, .tmp 58]) rfl ?_); at_builtin; refine Kd.R_append kR (w0 := w) 0 rfl (.tmp 56) (.tmp 58) 31 34 (.agg #[.int .u64 0, .string ⟨#[]⟩]) 24 rfl Try.underlying31 (by kernel_rfl) rfl (by decide) (by omega) (.slice none 0 0) [] (⟨0, D0⟩ : SR) [.int .u64 0, .string D0] (fun j => w6.heap.size ≤ j) (fun _ => False) rfl ?hx ?aP (fun _ hk => hk.elim) ?aF ?aO ?aB ?aS ?aL ?_; (case hx => first | rfl | (go_simp; done) | (simp [World.alloc]; done)); (case aP => exact kR_mkM _ _ _ (⟨0, D0⟩ : SR)); (case aF => exact (fun j hj => by rw [hw6]; exact hj)); (case aO => exact Kd.R_nil _ _ _ _ _); (case aB => rw [← hw6]; exact HB6.out.mono (Nat.zero_le _)); (case aS => exact Nat.zero_le _); (case aL => simp); intro v7 w7 ho hb7 hg7 hat; rw [← hw6] at hg7; have HT7 := Aside0.mk (Two.nilR (B := w6.heap.size) ho); have HG7 := Aside0.mk (Kp.grown (Kp.refl w6 (fun _ => False)) hg7 (fun j hj => by simp [Value.ownBlock] at hj)); clear ho hb7 hg7 hat hw6 x1 x2))
  obtain ⟨B2, hB2⟩ : ∃ B2, B2 = w6.heap.size := ⟨_, rfl⟩
  obtain ⟨gc, hgc⟩ : ∃ gc, gc = w5.heap.size := ⟨_, rfl⟩
  rw [← hB2] at HT7
  rw [← hgc] at HK6 HBg HZ6 ⊢
  have HG2 := Aside0.mk (show gc < B2 from by rw [hB2]; exact HZ6.out)
  have HB7 := Aside0.mk (Kp.old HB6.out HB6.out.size HG7.out (fun _ h => h.elim))
  have HR7 := Aside0.mk (HR6.out.kept HG7.out (fun _ _ h => h))
  have HK7 := Aside0.mk ((HG7.out.keep gc (blkLt HK6.out) (fun h => h)).trans HK6.out)
  have HWB2 := Aside0.mk (show w.heap.size ≤ B2 from by rw [hB2]; exact HB6.out.size)
  have HZ7 := Aside0.mk (show B2 ≤ w7.heap.size from by rw [hB2]; exact HG7.out.size)
  have HD0 := Aside0.mk (show D0 = rtD k [] 0 from HD0.out)
  clear hB2 hgc
  go_loopg [7, 8, 11] f.length (fun kq q7 q8 q11 w' => ∃ (i : Nat) (R : List ByteArray) (S : List SR), q11 = .int .i64 (i : Int) ∧ Aside0 (i + kq = f.length) ∧ Aside0 (Two w' B2 q7 R q8 S) ∧ Aside0 (RowOf k (fits (f.take i)) R) ∧ Aside0 (RtsOf k (fits (f.take i)) S) ∧ Aside0 (Fr w' hb (fun j => w3.heap.size ≤ j ∧ j < B) k (fits (f.take i)).length (fo k (fits (f.take i)))) ∧ Aside0 (Below w.heap.size w w') ∧ Aside0 (B2 ≤ w'.heap.size) ∧ Aside0 (∃ (x : Int) (s : ByteArray), w'.heap[gc]? = some (.cells #[.int .u64 x, .string s] 34 (0, 0))))
  case atStart => exact ⟨0, [], _, by rfl, ⟨by omega⟩, HT7, ⟨RowOf.nil k⟩, ⟨by have h := RtsOf.first k; rw [← HD0.out] at h; exact h⟩, HR7, HB7, HZ7, ⟨_, _, HK7.out⟩⟩
  case round =>
    obtain ⟨i, R, S, rfl, HI, HT, HRO, HRT, HR, HB, HBz, HGC⟩ := hrel
    cases gk with
    | zero =>
      have hlt : decide ((i : Int) < (f.length : Int)) = false := decide_eq_false (by have := HI.out; omega)
      have hlt' : decide (i < f.length) = false := decide_eq_false (by have := HI.out; omega)
      have e : f.take i = f := List.take_of_length_le (by have := HI.out; omega)
      rw [e] at HRO HRT HR
      clear e
      obtain ⟨L, hL⟩ : ∃ L, L = fits f := ⟨_, rfl⟩
      rw [← hL] at HRO HRT HR
      obtain ⟨n, hn⟩ : ∃ n, n = L.length := ⟨_, rfl⟩
      have hnl : n ≤ 70 := by rw [hn, hL]; exact Nat.le_trans (fits_len _) HFL.out
      obtain ⟨Ar, cr, er, hcr, hCr⟩ := Kd.R_reads HT.out.row
      obtain ⟨As, cs, es, hcs, hCs⟩ := Kd.R_reads HT.out.rts
      subst er es
      have HOS := Aside0.mk (show ∀ ad, As = some ad → B2 ≤ ad.block from fun ad e => HT.out.ownS ad.block (by rw [e]; rfl))
      clear HT
      have hRl : R.length = 2 * n - ones n := by rw [hn]; exact HRO.out.1
      have hSl : S.length = n + 1 := by rw [hn]; exact HRT.out.1
      obtain ⟨q, hq⟩ : ∃ q, q = 2 * n - ones n := ⟨_, rfl⟩
      rw [← hq] at hRl
      obtain ⟨s1, hs1⟩ : ∃ s1, s1 = n + 1 := ⟨_, rfl⟩
      rw [← hs1] at hSl
      have hno := place_Nodes.is n 65 (by omega) (Nat.le_refl _)
      rw [← hq] at hno
      have HNO := Aside0.mk hno
      have HQ := Aside0.mk hq
      have HN := Aside0.mk hn
      have HNL := Aside0.mk hnl
      have HQL := Aside0.mk (show q ≤ 140 from by omega)
      have HS1 := Aside0.mk hs1
      rw [← hn] at HR
      rw [hRl] at hCr hcr ⊢
      rw [hSl] at hCs hcs ⊢
      have HCR := Aside0.mk hCr
      have HCS := Aside0.mk hCs
      have b1 : 0 ≤ (q : Int) ∧ (q : Int) ≤ 18446744073709551615 := by have := HQL.out; omega
      have b2 : -9223372036854775808 ≤ (n : Int) ∧ (n : Int) ≤ 9223372036854775807 := by omega
      have b3 : -9223372036854775808 ≤ (n : Int) + 1 ∧ (n : Int) + 1 ≤ 9223372036854775807 := by omega
      have b4 : (n : Int) + 1 = (s1 : Int) := by omega
      have u1 : IntKind.u64.wrap (q : Int) = (q : Int) := IntWalk.u64_in _ b1
      have u2 : wrap64 (n : Int) = (n : Int) := MB.wrap64_in _ b2.1 b2.2
      have u4 : wrap64 ((n : Int) + 1) = (s1 : Int) := (MB.wrap64_in _ b3.1 b3.2).trans b4
      clear b1 b2 b3 b4
      clear hL hn hnl hCr hCs hcr hcs hRl hSl hq hs1 hno
      go_wp2_with (fail)
      refine (size_calls wr hb _ k n _ HR.out).mono ?_
      rintro e w8 ⟨rfl, hb8⟩
      have HB8 := Aside0.mk hb8
      clear hb8
      go_wp2_with (fail)
      refine (place_Nodes.calls 65 n _ _ _ HNO.out).mono ?_
      rintro e w9 ⟨rfl, hd9⟩
      have HB9 := Aside0.mk (below_weaken HB8.out (Nat.le_refl _) (hd9.below.mono HB8.out.size))
      clear hd9
      go_wp2_with (fail)
      go_wp2_with (first | (go_at_call 11; refine (num_calls _ _).mono ?_; rintro e _ ⟨rfl, rfl⟩) | (go_at_call 14; refine (size_calls _ hb _ k n _ (HR.out.below HB9.out)).mono ?_; rintro e w10 ⟨rfl, hb10⟩; have HB10 := Aside0.mk (show Below wr.heap.size wr w10 from below_weaken HB9.out HB9.out.size hb10); clear hb10))
      clear u1 u2 u4
      go_wp2_with (fail)
      have HR0 := Aside0.mk (HR.out.below HB10.out)
      have HCR0 := Aside0.mk (Kd.C_below HCR.out HB10.out)
      have HCS0 := Aside0.mk (Kd.C_below HCS.out HB10.out)
      have HB0 := Aside0.mk (below_weaken HB.out HB.out.size HB10.out)
      have HG0 := Aside0.mk (show ∃ (x : Int) (s : ByteArray), w10.heap[gc]? = some (.cells #[.int .u64 x, .string s] 34 (0, 0)) from by obtain ⟨x, s, h⟩ := HGC.out; exact ⟨x, s, blk_below h HB10.out⟩)
      clear HR HCR HCS HB HGC HBz HI hlt hlt' HB8 HB9 HB10
      rename_i _
      go_loopg [16] q (fun kq q16 w' => ∃ p : Nat, q16 = .int .i64 (p : Int) ∧ Aside0 (p + kq = q) ∧ Aside0 (Below w10.heap.size w10 w'))
      case atStart => exact ⟨0, by rfl, ⟨by omega⟩, ⟨Below.refl _ _⟩⟩
      case round =>
        obtain ⟨p, rfl, HP, HB⟩ := hrel
        cases gk with
        | zero =>
          have hpt : decide ((p : Int) < (q : Int)) = false := decide_eq_false (by have := HP.out; omega)
          have hpt' : decide (p < q) = false := decide_eq_false (by have := HP.out; omega)
          go_wp2_with (fail)
          have HR1 := Aside0.mk (HR0.out.below HB.out)
          have HC1 := Aside0.mk (Kd.C_below HCS0.out HB.out)
          have HB1w := Aside0.mk (below_weaken HB0.out HB0.out.size HB.out)
          have HG1 := Aside0.mk (show ∃ (x : Int) (s : ByteArray), wr.heap[gc]? = some (.cells #[.int .u64 x, .string s] 34 (0, 0)) from by obtain ⟨x, s, h⟩ := HG0.out; exact ⟨x, s, blk_below h HB.out⟩)
          obtain ⟨wz, hwz⟩ : ∃ wz, wz = wr := ⟨_, rfl⟩
          rw [← hwz] at HR1 HC1 HB1w HG1 ⊢
          clear HB HP hpt hpt' hwz HR0 HCR0 HCS0 HB0 HG0
          go_loopg [27] s1 (fun kq q27 w' => ∃ h : Nat, q27 = .int .i64 (h : Int) ∧ Aside0 (h + kq = s1) ∧ Aside0 (Kp wz w' (fun j => j = gc)) ∧ Aside0 (∃ (x : Int) (s : ByteArray), w'.heap[gc]? = some (.cells #[.int .u64 x, .string s] 34 (0, 0))))
          case atStart => exact ⟨0, by rfl, ⟨by omega⟩, ⟨Kp.refl _ _⟩, HG1⟩
          case round =>
            obtain ⟨h, rfl, HH, HKP, HGC⟩ := hrel
            have HRr := Aside0.mk (HR1.out.kept HKP.out (fun j hj e => by have h1 := hj.2; have h2 := HBg.out; rw [e] at h1; omega))
            have HBr := Aside0.mk (Kp.old HB1w.out HB1w.out.size HKP.out (fun j hj => by rw [hj]; have h1 := HBg.out; have h2 := HWB.out; have h3 := HZ3.out; omega))
            cases gk with
            | zero =>
              have hht : decide ((h : Int) < (s1 : Int)) = false := decide_eq_false (by have := HH.out; omega)
              have hht' : decide (h < s1) = false := decide_eq_false (by have := HH.out; omega)
              have b1 : 0 ≤ (n : Int) + 1 ∧ (n : Int) + 1 ≤ 18446744073709551615 := by have := HNL.out; omega
              have b2 : (n : Int) + 1 = (s1 : Int) := by have := HS1.out; omega
              have u1 : IntKind.u64.wrap ((n : Int) + 1) = (s1 : Int) := (IntWalk.u64_in _ b1).trans b2
              clear b1 b2
              go_wp2_with (fail)
              refine (node_out wr hb _ k n _ HRr.out (by have := HNL.out; omega) (q : Int) (by rw [← HQ.out]; exact Int.le_refl _)).mono ?_
              rintro e w11 ⟨rfl, hb11⟩
              have HB11 := Aside0.mk (below_weaken HBr.out HBr.out.size hb11)
              have HR11 := Aside0.mk (HRr.out.below hb11)
              clear hb11
              go_wp2_with (fail)
              refine (size_calls w11 hb _ k n _ HR11.out).mono ?_
              rintro e w12 ⟨rfl, hb12⟩
              have HB12 := Aside0.mk (below_weaken HB11.out HB11.out.size hb12)
              have HR12 := Aside0.mk (HR11.out.below hb12)
              clear hb12
              go_wp2_with (fail)
              refine (root_no w12 hb _ k n _ HR12.out (s1 : Int) (by have := HS1.out; omega)).mono ?_
              rintro e w13 ⟨rfl, hb13⟩
              have HB13 := Aside0.mk (below_weaken HB12.out HB12.out.size hb13)
              clear hb13
              obtain ⟨xo, so, hgo⟩ := HGC.out
              go_wp2_with (first | (go_at_call 11; refine (num_calls _ _).mono ?_; rintro e _ ⟨rfl, rfl⟩))
              go_ret
              exact ⟨rfl, HB13.out⟩
            | succ k1 =>
              have hh : h < s1 := by have := HH.out; omega
              have hht : decide ((h : Int) < (s1 : Int)) = true := decide_eq_true (by omega)
              have hht' : decide (h < s1) = true := decide_eq_true hh
              have p1 : (0 : Int) ≤ (h : Int) := by omega
              have p2 : (h : Int) < (s1 : Int) := by omega
              have b1 : 0 ≤ (h : Int) ∧ (h : Int) ≤ 18446744073709551615 := by have := HS1.out; have := HNL.out; omega
              have b2 : -9223372036854775808 ≤ (h : Int) + 1 ∧ (h : Int) + 1 ≤ 9223372036854775807 := by have := HS1.out; have := HNL.out; omega
              have hhn : h ≤ n := by have := HS1.out; omega
              obtain ⟨D, hD⟩ : ∃ D, D = rtD k L h := ⟨_, rfl⟩
              have hS := HRT.out.2 h (by rw [← HN.out]; exact hhn)
              rw [← hD] at hS
              obtain ⟨ad, ea, hx, hy⟩ := at_R HC1.out (h : Int) p1 p2
              have hrd : rdR S (h : Int) = ⟨(h : Int), D⟩ := by
                have e1 : rdR S (h : Int) = (S[h]?).getD zR := by unfold rdR; rw [Int.toNat_natCast, List.getD_eq_getElem?_getD]
                rw [hS, Option.getD_some] at e1; exact e1
              rw [hrd, Int.toNat_natCast] at hx hy
              have hos := HOS.out ad ea
              cases ea
              have HX := Aside0.mk hx
              have HY := Aside0.mk hy
              have eb : (ad.add (h * 2)).block = ad.block := by unfold Addr.add; split <;> rfl
              have HNE := Aside0.mk (show (ad.add (h * 2)).block ≠ gc from by rw [eb]; have := HG2.out; omega)
              clear eb
              have HXY := Aside0.mk (show ∀ W, Kp wz W (fun j => j = gc) → W.cell? (ad.add (h * 2)) = some (.int .u64 (h : Int)) ∧ W.cell? ⟨(ad.add (h * 2)).block, (ad.add (h * 2)).off + 1, none⟩ = some (.string D) from fun W hW =>
                have hk := hW.keep _ (World.block_lt_of_cell? _ _ HX.out) HNE.out
                ⟨(World.cell?_of_block (a := ad.add (h * 2)) hk).trans HX.out, (World.cell?_of_block (a := ⟨(ad.add (h * 2)).block, (ad.add (h * 2)).off + 1, none⟩) hk).trans HY.out⟩)
              have u1 : IntKind.u64.wrap (h : Int) = (h : Int) := IntWalk.u64_in _ b1
              have HU3 := Aside0.mk (show wrap64 ((h : Int) + 1) = (h : Int) + 1 from MB.wrap64_in _ b2.1 b2.2)
              have HHN := Aside0.mk hhn
              have HD := Aside0.mk hD
              clear b1 b2 hh hhn hS hx hy hrd hos hD
              go_wp2_with (fail)
              have hrc := root_calls wr hb _ k L (by rw [← HN.out]; exact HRr.out) (by rw [← HN.out]; have := HNL.out; omega) h (by rw [← HN.out]; exact HHN.out)
              rw [← HD.out] at hrc
              refine hrc.mono ?_
              clear hrc
              rintro e w11 ⟨rfl, hb11⟩
              have HKP11 := Aside0.mk (HKP.out.then_below hb11)
              obtain ⟨xo, so, hgo⟩ := HGC.out
              have HGO := Aside0.mk (blk_below hgo hb11)
              clear hgo hb11 u1
              go_wp2_with (first | ((with_reducible refine gate_store (t := 34) (x := .tmp 9) (v := .tmp 243) rfl ?_); refine Sha.wpList_store_row' rfl 34 (.tmp 9) (.tmp 243) rfl gc rfl _ rfl _ 34 HGO.out rfl (by kernel_rfl) (by intro v hv; simp at hv; rcases hv with rfl | rfl <;> rfl) ?_; intro w12 hw12; have HW12 := Aside0.mk hw12; have HKG := Aside0.mk (show w12.heap[gc]? = some (.cells #[.int .u64 (h : Int), .string D] 34 (0, 0)) from (by rw [hw12]; exact setRow_heap _ _ _ _ _ _ HGO.out)); have HKP12 := Aside0.mk (show Kp wz w12 (fun j => j = gc) from HKP11.out.trans (show Kp w11 w12 (fun j => j = gc) from (by rw [hw12]; exact ⟨rfl, rfl, rfl, (by simp), fun j _ h => setRow_other w11 gc j _ h⟩)) (fun j _ e => e)); have x1 : w12.cell? ⟨gc, 0, none⟩ = some (.int .u64 (h : Int)) := (by have e := HKG.out; unfold World.cell?; rw [e]; rfl); have x2 : w12.cell? ⟨gc, 1, none⟩ = some (.string D) := (by have e := HKG.out; unfold World.cell?; rw [e]; rfl); have x3 := (HXY.out w12 HKP12.out).1; have x4 := (HXY.out w12 HKP12.out).2; clear hw12) | (go_at_call 11; refine (num_calls _ _).mono ?_; rintro e _ ⟨rfl, rfl⟩))
              have z1 : w12.drew.cell? ⟨gc, 0, none⟩ = some (.int .u64 (h : Int)) := x1
              have z2 : w12.drew.cell? ⟨gc, 1, none⟩ = some (.string D) := x2
              have z3 : w12.drew.cell? (ad.add (h * 2)) = some (.int .u64 (h : Int)) := x3
              have z4 : w12.drew.cell? ⟨(ad.add (h * 2)).block, (ad.add (h * 2)).off + 1, none⟩ = some (.string D) := x4
              go_region_held3 (fun w' => w'.cell? ⟨gc, 0, none⟩ = some (.int .u64 (h : Int)) ∧ w'.cell? ⟨gc, 1, none⟩ = some (.string D) ∧ w'.cell? (ad.add (h * 2)) = some (.int .u64 (h : Int)) ∧ w'.cell? ⟨(ad.add (h * 2)).block, (ad.add (h * 2)).off + 1, none⟩ = some (.string D)) (first | exact ⟨z1, z2, z3, z4⟩ | go_keep)
                (first | (go_at_call 11; refine (num_calls _ _).mono ?_; rintro e _ ⟨rfl, rfl⟩))
              clear x1 x2 x3 x4 z1 z2 z3 z4
              have u3 := HU3.out
              go_wp2_with (fail)
              go_roundg k1
              case measure => exact Nat.lt_succ_self _
              case rel => exact ⟨h + 1, by rw [u3]; rfl, ⟨by have := HH.out; omega⟩, ⟨HKP12.out.drewN 1⟩, ⟨_, _, HKG.out⟩⟩
        | succ k1 =>
          have hpq : p < q := by have := HP.out; omega
          have hpt : decide ((p : Int) < (q : Int)) = true := decide_eq_true (by omega)
          have hpt' : decide (p < q) = true := decide_eq_true hpq
          have b1 : 0 ≤ (p : Int) ∧ (p : Int) ≤ 18446744073709551615 := by have := HQL.out; omega
          have b2 : -9223372036854775808 ≤ (p : Int) + 1 ∧ (p : Int) + 1 ≤ 9223372036854775807 := by have := HQL.out; omega
          have p1 : (0 : Int) ≤ (p : Int) := by omega
          have p2 : (p : Int) < (q : Int) := by omega
          obtain ⟨a, j, hm, hpl, hfit⟩ := row_block n (by have := HNL.out; omega) p (by rw [← HQ.out]; exact hpq)
          have HM := Aside0.mk hm
          have HPL := Aside0.mk hpl
          have HFIT := Aside0.mk hfit
          have hfo := fo_in k L a j (by rw [← HN.out]; exact hfit)
          obtain ⟨D, hD⟩ : ∃ D, D = MT.trB k L (a, j) := ⟨_, rfl⟩
          have hrp : R[pl a j]? = some (MT.trB k L (a, j)) := HRO.out.2 a j (by rw [← HN.out]; exact hfit)
          rw [← hD] at hfo hrp
          rw [hpl] at hrp
          have HFO := Aside0.mk hfo
          have hds : (D.size : Int) = k := by rw [hD, MT.trB_size]; exact MH.hK_of k HK2.out
          have HDS := Aside0.mk hds
          have HD := Aside0.mk hD
          obtain ⟨ad, ea, hx⟩ := Kd.at_string HCR0.out (p : Int) p1 p2
          cases ea
          have HX0 := Aside0.mk (show w10.cell? (ad.add p) = some (.string D) from by
            rw [Int.toNat_natCast] at hx
            have e : rdOf ByteArray.empty R (p : Int) = D := by
              have e1 : rdOf ByteArray.empty R (p : Int) = (R[p]?).getD ByteArray.empty := by unfold rdOf; rw [Int.toNat_natCast, List.getD_eq_getElem?_getD]
              rw [hrp, Option.getD_some] at e1
              exact e1
            rw [e] at hx
            exact hx)
          have HBLK := Aside0.mk (show place_Block.f 42 (p : Int) = some ((a : Int), (j : Int), true) from by rw [← hpl]; exact place_Block.yes a j 42 hm (Nat.le_refl _))
          have HRr := Aside0.mk (HR0.out.below HB.out)
          have u1 : IntKind.u64.wrap (p : Int) = (p : Int) := IntWalk.u64_in _ b1
          have HU3 := Aside0.mk (show wrap64 ((p : Int) + 1) = (p : Int) + 1 from MB.wrap64_in _ b2.1 b2.2)
          have HPQ := Aside0.mk hpq
          clear b1 b2 hm hpl hfit hfo hD hrp hds hx hpq
          go_wp2_with (fail)
          have hnd := node_in wr hb _ k n (fo k L) HRr.out (by have := HNL.out; omega) a j HM.out p HPL.out.symm (by rw [← HQ.out]; exact HPQ.out)
          rw [HFO.out] at hnd
          refine hnd.mono ?_
          clear hnd
          rintro e w11 ⟨rfl, hb11⟩
          have HB11 := Aside0.mk (below_weaken HB.out (Nat.le_refl _) (hb11.mono HB.out.size))
          clear hb11
          go_wp2_with (fail)
          refine (place_Block.calls 42 p _ _ _ _ HBLK.out).mono ?_
          rintro e w12 ⟨rfl, hb12⟩
          have hb13 := below_alloc (Below.refl w12.heap.size w12) (.cells #[.int .i64 (a : Int), .int .u64 (j : Int)] 45)
          have HK13 := Aside0.mk (blk_new w12 (.cells #[.int .i64 (a : Int), .int .u64 (j : Int)] 45))
          have HB13 := Aside0.mk (below_weaken (below_weaken HB11.out HB11.out.size hb12) (Nat.le_trans HB11.out.size hb12.size) hb13)
          have y1 : (w12.alloc (.cells #[.int .i64 (a : Int), .int .u64 (j : Int)] 45)).cell? ⟨w12.heap.size, 0, none⟩ = some (.int .i64 (a : Int)) := by have h := HK13.out; unfold World.cell?; rw [h]; rfl
          have y2 : (w12.alloc (.cells #[.int .i64 (a : Int), .int .u64 (j : Int)] 45)).cell? ⟨w12.heap.size, 1, none⟩ = some (.int .u64 (j : Int)) := by have h := HK13.out; unfold World.cell?; rw [h]; rfl
          clear hb12 hb13 u1
          go_wp2_with (fail)
          have hdc := digest_calls _ hb _ k n (fo k L) (HR0.out.below HB13.out) (a : Int) (j : Int) (WalkArith.wf_i64 (by have := HM.out.1; omega)) (WalkArith.wf_u64 (by have := HM.out.lt; omega))
          rw [HFO.out] at hdc
          refine hdc.mono ?_
          clear hdc y1 y2
          rintro e w14 ⟨rfl, hb14⟩
          have HB14 := Aside0.mk (below_weaken HB13.out HB13.out.size hb14)
          have HK14 := Aside0.mk (blk_below HK13.out hb14)
          obtain ⟨gb, hgb⟩ : ∃ gb, gb = w12.heap.size := ⟨_, rfl⟩
          rw [← hgb] at HK14 ⊢
          have y1 : w14.cell? ⟨gb, 0, none⟩ = some (.int .i64 (a : Int)) := by have h := HK14.out; unfold World.cell?; rw [h]; rfl
          have y2 : w14.cell? ⟨gb, 1, none⟩ = some (.int .u64 (j : Int)) := by have h := HK14.out; unfold World.cell?; rw [h]; rfl
          have x1 := (HB14.out.cell (World.block_lt_of_cell? _ _ HX0.out)).trans HX0.out
          have d1 : ((D.size : Int) != k) = false := bne_eq_false_iff_eq.mpr HDS.out
          have u3 := HU3.out
          clear hb14 hgb
          cases a with
          | zero =>
            go_wp2_with (fail)
            go_roundg k1
            case measure => exact Nat.lt_succ_self _
            case rel => exact ⟨p + 1, by rw [u3]; rfl, ⟨by have := HP.out; omega⟩, HB14⟩
          | succ a1 =>
            have g1 : decide (((a1 + 1 : Nat) : Int) > 0) = true := decide_eq_true (by omega)
            have g2 : decide ((0 : Int) < ((a1 + 1 : Nat) : Int)) = true := decide_eq_true (by omega)
            have g3 : decide (0 < a1 + 1) = true := decide_eq_true (by omega)
            have hn := MT.trB_node k L a1 j
            have hp1 : 2 ^ (a1 + 1) = 2 * 2 ^ a1 := by rw [Nat.pow_succ, Nat.mul_comm]
            have f1 : (2 * j + 1 + 1) * 2 ^ a1 ≤ n := by
              have h := HFIT.out
              rw [hp1, ← Nat.mul_assoc, Nat.add_mul, Nat.one_mul] at h
              rw [show 2 * j + 1 + 1 = j * 2 + 2 from by omega]; exact h
            have f0 : (2 * j + 1) * 2 ^ a1 ≤ n := Nat.le_trans (Nat.mul_le_mul_right _ (by omega)) f1
            have hy := fo_in k L a1 (2 * j) (by rw [← HN.out]; exact f0)
            have hz := fo_in k L a1 (2 * j + 1) (by rw [← HN.out]; exact f1)
            obtain ⟨Y, hY⟩ : ∃ Y, Y = MT.trB k L (a1, 2 * j) := ⟨_, rfl⟩
            obtain ⟨Z, hZ⟩ : ∃ Z, Z = MT.trB k L (a1, 2 * j + 1) := ⟨_, rfl⟩
            rw [← hY] at hy hn
            rw [← hZ] at hz hn
            have HND := Aside0.mk (fun W => show Calls Try.prog 19 #[.int .i64 k, .string Y, .string Z] W fun e w' => e = .returned (.string D) ∧ Below W.heap.size W w' from by
              rw [HD.out, hn]; exact node_calls k Y Z W (by rw [hY, MT.trB_size]; exact (MH.hK_in k).2) (by rw [hZ, MT.trB_size]; exact (MH.hK_in k).2))
            have HY := Aside0.mk hy
            have HZ := Aside0.mk hz
            have HJ := Aside0.mk (show a1 ≤ 40 ∧ 2 * j + 1 ≤ 2 ^ 41 from ⟨by have := HM.out.1; omega, by have := HM.out.lt; omega⟩)
            clear hn hp1 f1 f0 hy hz hY hZ
            obtain ⟨J2, hJ2⟩ : ∃ J2 : Int, J2 = ((2 * j : Nat) : Int) := ⟨_, rfl⟩
            obtain ⟨J3, hJ3⟩ : ∃ J3 : Int, J3 = ((2 * j + 1 : Nat) : Int) := ⟨_, rfl⟩
            have b1 : 0 ≤ 2 * (j : Int) ∧ 2 * (j : Int) ≤ 18446744073709551615 := by have := HJ.out.2; omega
            have b2 : 0 ≤ J2 + 1 ∧ J2 + 1 ≤ 18446744073709551615 := by have := HJ.out.2; omega
            have b3 : -9223372036854775808 ≤ (a1 : Int) ∧ (a1 : Int) ≤ 9223372036854775807 := by have := HJ.out.1; omega
            have b4 : 2 * (j : Int) = J2 := by omega
            have b5 : J2 + 1 = J3 := by omega
            have b6 : (a1 : Int) + 1 - 1 = (a1 : Int) := by omega
            have b7 : ((a1 + 1 : Nat) : Int) - 1 = (a1 : Int) := by omega
            have HY2 := Aside0.mk (show fo k L (a1 : Int) J2 = some Y from by rw [hJ2]; exact HY.out)
            have HZ3 := Aside0.mk (show fo k L (a1 : Int) J3 = some Z from by rw [hJ3]; exact HZ.out)
            have HW2 := Aside0.mk (show (Lit.int .u64 J2).wf = true from WalkArith.wf_u64 (by rw [hJ2]; have := HJ.out.2; omega))
            have HW3 := Aside0.mk (show (Lit.int .u64 J3).wf = true from WalkArith.wf_u64 (by rw [hJ3]; have := HJ.out.2; omega))
            have HWa := Aside0.mk (show (Lit.int .i64 (a1 : Int)).wf = true from WalkArith.wf_i64 (by have := HJ.out.1; omega))
            have e1 : wrap64 (((a1 + 1 : Nat) : Int) - 1) = (a1 : Int) := by rw [b7]; exact MB.wrap64_in _ b3.1 b3.2
            have e1b : wrap64 ((a1 : Int) + 1 - 1) = (a1 : Int) := by rw [b6]; exact MB.wrap64_in _ b3.1 b3.2
            have e1c : wrap64 (a1 : Int) = (a1 : Int) := MB.wrap64_in _ b3.1 b3.2
            have e2 : IntKind.u64.wrap (2 * (j : Int)) = J2 := (IntWalk.u64_in _ b1).trans b4
            have e3 : IntKind.u64.wrap (J2 + 1) = J3 := (IntWalk.u64_in _ b2).trans b5
            clear b1 b2 b3 b4 b5 b6 b7 hJ2 hJ3
            go_wp2_with (fail)
            have hdy := digest_calls w14 hb _ k n (fo k L) (HR0.out.below HB14.out) (a1 : Int) J2 HWa.out HW2.out
            rw [HY2.out] at hdy
            refine hdy.mono ?_
            clear hdy
            rintro e w15 ⟨rfl, hb15⟩
            have HB15 := Aside0.mk (below_weaken HB14.out HB14.out.size hb15)
            have HK15 := blk_below HK14.out hb15
            have y3 : w15.cell? ⟨gb, 0, none⟩ = some (.int .i64 ((a1 + 1 : Nat) : Int)) := by unfold World.cell?; rw [HK15]; rfl
            have y4 : w15.cell? ⟨gb, 1, none⟩ = some (.int .u64 (j : Int)) := by unfold World.cell?; rw [HK15]; rfl
            clear hb15 HK15 y1 y2 x1
            go_wp2_with (fail)
            have hdz := digest_calls w15 hb _ k n (fo k L) (HR0.out.below HB15.out) (a1 : Int) J3 HWa.out HW3.out
            rw [HZ3.out] at hdz
            refine hdz.mono ?_
            clear hdz
            rintro e w16 ⟨rfl, hb16⟩
            have HB16 := Aside0.mk (below_weaken HB15.out HB15.out.size hb16)
            clear hb16 y3 y4 e1 e1b e1c e2 e3
            go_wp2_with (fail)
            refine (HND.out w16).mono ?_
            rintro e w17 ⟨rfl, hb17⟩
            have HB17 := Aside0.mk (below_weaken HB16.out HB16.out.size hb17)
            clear hb17
            go_wp2_with (fail)
            go_roundg k1
            case measure => exact Nat.lt_succ_self _
            case rel => exact ⟨p + 1, by rw [u3]; rfl, ⟨by have := HP.out; omega⟩, HB17⟩
    | succ k1 =>
      have hil : i < f.length := by have := HI.out; omega
      have hlt : decide ((i : Int) < (f.length : Int)) = true := decide_eq_true (by omega)
      have hlt' : decide (i < f.length) = true := decide_eq_true hil
      have u3 : wrap64 ((i : Int) + 1) = (i : Int) + 1 := MB.wrap64_in _ (by omega) (by have := HFL.out; omega)
      obtain ⟨ad, ea, hx⟩ := Kd.at_string HC0.out (i : Int) (by omega) (by omega)
      cases ea
      have HIL := Aside0.mk hil
      obtain ⟨x, hxe⟩ : ∃ x, x = f[i]'HIL.out := ⟨_, rfl⟩
      have HX0 := Aside0.mk (show w.cell? (ad.add i) = some (.string x) from by
        rw [Int.toNat_natCast] at hx; rw [hx, hxe]
        congr 2
        unfold rdOf; rw [Int.toNat_natCast, List.getD_eq_getElem?_getD, List.getElem?_eq_getElem hil]; rfl)
      have hx1 : wr.cell? (ad.add i) = some (.string x) := (HB.out.cell (World.block_lt_of_cell? _ _ HX0.out)).trans HX0.out
      have HXE := Aside0.mk hxe
      have p1 : (0 : Int) ≤ (i : Int) := by omega
      have p2 : (i : Int) < (f.length : Int) := by omega
      clear hx hxe
      obtain ⟨L, hL⟩ : ∃ L, L = fits (f.take i) := ⟨_, rfl⟩
      rw [← hL] at HR HRO HRT
      have HLL := Aside0.mk (show L.length ≤ 70 from by rw [hL]; exact Nat.le_trans (fits_len _) (Nat.le_trans (by rw [List.length_take]; omega) HFL.out))
      have HLe := Aside0.mk hL
      clear hL
      by_cases hbig : 1048576 < x.size
      · have t1 : decide ((x.size : Int) > 1048576) = true := decide_eq_true (by omega)
        have t2 : decide ((1048576 : Int) < x.size) = true := decide_eq_true (by omega)
        have t3 : decide (1048576 < x.size) = true := decide_eq_true (by omega)
        have t4 : decide ((x.size : Int) ≤ 1048576) = false := decide_eq_false (by omega)
        have t5 : decide (x.size ≤ 1048576) = false := decide_eq_false (by omega)
        have HBIG := Aside0.mk hbig
        clear hbig
        go_wp2_with (fail)
        refine (append_long wr hb x HBIG.out).mono ?_
        rintro e w8 ⟨rfl, hb8⟩
        have HB8 := Aside0.mk (below_weaken HB.out HB.out.size hb8)
        have HR8 := Aside0.mk (HR.out.below hb8)
        have HT8 := Aside0.mk (HT.out.below hb8)
        have HZ8 := Aside0.mk (Nat.le_trans HBz.out hb8.size)
        have HG8 := Aside0.mk (show ∃ (x : Int) (s : ByteArray), w8.heap[gc]? = some (.cells #[.int .u64 x, .string s] 34 (0, 0)) from by obtain ⟨x, s, h⟩ := HGC.out; exact ⟨x, s, blk_below h hb8⟩)
        have hx8 := (HB8.out.cell (World.block_lt_of_cell? _ _ HX0.out)).trans HX0.out
        clear hb8 hx1
        go_wp2_with (first | (go_at_call 11; refine (num_calls _ _).mono ?_; rintro e _ ⟨rfl, rfl⟩))
        go_roundg k1
        case measure => exact Nat.lt_succ_self _
        case rel =>
          have ef : fits (f.take (i + 1)) = L := by rw [HLe.out]; exact fits_no f i HIL.out (by rw [← HXE.out]; have := HBIG.out; omega)
          exact ⟨i + 1, R, S, by rw [u3]; rfl, ⟨by have := HI.out; omega⟩, HT8, ⟨by rw [ef]; exact HRO.out⟩, ⟨by rw [ef]; exact HRT.out⟩, ⟨by rw [ef]; exact HR8.out⟩, HB8, HZ8, HG8⟩
      · have t1 : decide ((x.size : Int) > 1048576) = false := decide_eq_false (by omega)
        have t2 : decide ((1048576 : Int) < x.size) = false := decide_eq_false (by omega)
        have t3 : decide (1048576 < x.size) = false := decide_eq_false (by omega)
        have HBIG := Aside0.mk hbig
        clear hbig
        go_wp2_with (fail)
        refine (append_ok wr hb _ k L x HR.out HK2.out.1 HK2.out.2 (by have := HLL.out; omega) (by have := HBIG.out; omega)).mono ?_
        intro e w8 hA
        obtain ⟨A1, c1, rfl, hl, hr, hk⟩ := hA.told (Nat.le_refl _)
        obtain ⟨m, hm⟩ : ∃ m, m = L.length + 1 := ⟨_, rfl⟩
        obtain ⟨t, ht⟩ : ∃ t, t = Pk.t1 L.length := ⟨_, rfl⟩
        obtain ⟨ms, hms⟩ : ∃ ms, ms = madeL k (L ++ [x]) L.length (Pk.t1 L.length) := ⟨_, rfl⟩
        obtain ⟨L1, hL1⟩ : ∃ L1, L1 = L ++ [x] := ⟨_, rfl⟩
        have hml : ms.length = t + 1 := by rw [hms, madeL_len, ht]
        have ht40 : t ≤ 40 := by rw [ht]; exact t1_le _ (by have := HLL.out; omega)
        have hRO := HRO.out.next x (by have := HLL.out; omega)
        have hRT := HRT.out.next x
        have hRL : R.length ≤ 140 := by have := HRO.out.1; have := HLL.out; omega
        have hSL : S.length ≤ 71 := by have := HRT.out.1; have := HLL.out; omega
        rw [← hms, ← hL1] at hRO
        rw [← hL1, ← hm] at hRT
        obtain ⟨D, hD⟩ : ∃ D, D = rtD k L1 m := ⟨_, rfl⟩
        rw [← hD] at hRT
        rw [← hms] at hl
        rw [← ht] at hl ⊢
        rw [← hm, ← hL1] at hr
        have hl1l : L1.length = m := by rw [hL1, hm]; simp
        obtain ⟨-, hc1, hC1⟩ := hl.C
        have HMS := Aside0.mk (show Kd.C Kd.string w8 A1 (t + 1) ms from by rw [← hml]; exact hC1)
        have HML := Aside0.mk hml
        have HT40 := Aside0.mk ht40
        have HRO1 := Aside0.mk hRO
        have HRT1 := Aside0.mk hRT
        have HRL := Aside0.mk hRL
        have HSL := Aside0.mk hSL
        have HL1 := Aside0.mk hL1
        have HL1L := Aside0.mk hl1l
        have HM := Aside0.mk (show m ≤ 71 from by have := HLL.out; omega)
        have HD := Aside0.mk hD
        have HR8 := Aside0.mk hr
        have HB8 := Aside0.mk (Kp.old HB.out HB.out.size hk (fun j hj => Nat.le_trans HZ3.out hj.1))
        have HT8 := Aside0.mk (HT.out.keep hk (fun j hj => by have := hj.2; have := HBg.out; have := HG2.out; omega))
        have HZ8 := Aside0.mk (Nat.le_trans HBz.out hk.size)
        have HG8 := Aside0.mk (show ∃ (x : Int) (s : ByteArray), w8.heap[gc]? = some (.cells #[.int .u64 x, .string s] 34 (0, 0)) from by obtain ⟨x, s, h⟩ := HGC.out; exact ⟨x, s, (hk.keep gc (blkLt h) (fun hj => by have := hj.2; have := HBg.out; omega)).trans h⟩)
        clear hl hr hk hA hm ht hms hL1 hml ht40 hRO hRT hRL hSL hD hl1l hc1 hC1 hx1
        go_wp2_with (first | (go_at_call 11; refine (num_calls _ _).mono ?_; rintro e _ ⟨rfl, rfl⟩) | ((with_reducible refine gate_builtin (b := .append) (xs := #[.tmp 89, .tmp 90]) rfl ?_); at_builtin; refine Kd.R_append_rows Kd.string (w0 := w8) 0 rfl (.tmp 89) (.tmp 90) 22 9 (.string ⟨#[]⟩) 16 rfl Try.underlying22 info9 rfl (by decide) (by omega) u7 R ms _ _ _ (fun j => B2 ≤ j ∧ some j ≠ u8.ownBlock) (fun _ => False) rfl rfl ?aO ?aR (fun _ _ h => h) (fun _ h => h.elim) ?aF ?aB ?aS ?aL ?_; (case aO => exact HT8.out.row); (case aR => exact HMS.out); (case aF => exact HT8.out.freshR HZ8.out); (case aB => exact Below.refl _ _); (case aS => exact Nat.zero_le _); (case aL => have := HRL.out; have := HT40.out; omega); intro v9 w9 ho hb9 hg9 hat; have HT9 := Aside0.mk (HT8.out.rowed ho hg9 hat); have HKP9 := Aside0.mk (Kp.grown (Kp.refl w8 (fun j => B2 ≤ j)) hg9 (fun j hj => .inl (HT8.out.ownR j hj))); clear ho hb9 hg9 hat))
        have HR9 := Aside0.mk (HR8.out.kept HKP9.out (fun j hj => by have := hj.2; have := HBg.out; have := HG2.out; omega))
        have HB9 := Aside0.mk (Kp.old HB8.out HB8.out.size HKP9.out (fun j hj => Nat.le_trans HWB2.out hj))
        have HZ9 := Aside0.mk (Nat.le_trans HZ8.out HKP9.out.size)
        have HG9 := Aside0.mk (show ∃ (x : Int) (s : ByteArray), w9.heap[gc]? = some (.cells #[.int .u64 x, .string s] 34 (0, 0)) from by obtain ⟨x, s, h⟩ := HG8.out; exact ⟨x, s, (HKP9.out.keep gc (blkLt h) (fun hj => by have := HG2.out; omega)).trans h⟩)
        clear HMS
        go_wp2_with (fail)
        refine (size_calls w9 hb _ k m _ HR9.out).mono ?_
        rintro e w10 ⟨rfl, hb10⟩
        have HR10 := Aside0.mk (HR9.out.below hb10)
        have HB10 := Aside0.mk (below_weaken HB9.out HB9.out.size hb10)
        have HT10 := Aside0.mk (HT9.out.below hb10)
        have HZ10 := Aside0.mk (Nat.le_trans HZ9.out hb10.size)
        have HG10 := Aside0.mk (show ∃ (x : Int) (s : ByteArray), w10.heap[gc]? = some (.cells #[.int .u64 x, .string s] 34 (0, 0)) from by obtain ⟨x, s, h⟩ := HG9.out; exact ⟨x, s, blk_below h hb10⟩)
        clear hb10
        go_wp2_with (fail)
        have hrc := root_calls w10 hb _ k L1 (by rw [HL1L.out]; exact HR10.out) (by rw [HL1L.out]; have := HM.out; omega) m (by rw [HL1L.out]; exact Nat.le_refl _)
        rw [← HD.out] at hrc
        refine hrc.mono ?_
        clear hrc
        rintro e w11 ⟨rfl, hb11⟩
        have HR11 := Aside0.mk (HR10.out.below hb11)
        have HB11 := Aside0.mk (below_weaken HB10.out HB10.out.size hb11)
        have HT11 := Aside0.mk (HT10.out.below hb11)
        have HZ11 := Aside0.mk (Nat.le_trans HZ10.out hb11.size)
        have HG11 := Aside0.mk (show ∃ (x : Int) (s : ByteArray), w11.heap[gc]? = some (.cells #[.int .u64 x, .string s] 34 (0, 0)) from by obtain ⟨x, s, h⟩ := HG10.out; exact ⟨x, s, blk_below h hb11⟩)
        clear hb11
        obtain ⟨xo, so, hgo⟩ := HG11.out
        have HGO := Aside0.mk hgo
        clear hgo
        have HDS := Aside0.mk (show (D.size : Int) = k from by rw [HD.out]; exact rtD_size k L1 m HK2.out)
        go_wp2_with (first | ((with_reducible refine gate_store (t := 34) (x := .tmp 9) (v := .tmp 97) rfl ?_); refine Sha.wpList_store_row' rfl 34 (.tmp 9) (.tmp 97) rfl gc rfl _ rfl _ 34 HGO.out rfl (by kernel_rfl) (by intro v hv; simp at hv; rcases hv with rfl | rfl <;> rfl) ?_; intro w12 hw12; have HW12 := Aside0.mk hw12; clear hw12))
        have HKP12 := Aside0.mk (show Kp w11 w12 (fun j => j = gc) from by rw [HW12.out]; exact ⟨rfl, rfl, rfl, by simp, fun j _ h => setRow_other w11 gc j _ h⟩)
        have HKG := Aside0.mk (show w12.heap[gc]? = some (.cells #[.int .u64 (m : Int), .string D] 34 (0, 0)) from by rw [HW12.out]; exact setRow_heap _ _ _ _ _ _ HGO.out)
        have HR12 := Aside0.mk (HR11.out.kept HKP12.out (fun j hj h => by have h1 := hj.2; have h2 := HBg.out; rw [h] at h1; omega))
        have HB12 := Aside0.mk (Kp.old HB11.out HB11.out.size HKP12.out (fun j hj => by rw [hj]; have h1 := HBg.out; have h2 := HWB.out; have h3 := HZ3.out; omega))
        have HT12 := Aside0.mk (HT11.out.keep HKP12.out (fun j hj => by rw [hj]; exact HG2.out))
        have HZ12 := Aside0.mk (Nat.le_trans HZ11.out HKP12.out.size)
        have x1 : w12.drew.cell? ⟨gc, 0, none⟩ = some (.int .u64 (m : Int)) := (show w12.cell? ⟨gc, 0, none⟩ = some (.int .u64 (m : Int)) from by have h := HKG.out; unfold World.cell?; rw [h]; rfl)
        have x2 : w12.drew.cell? ⟨gc, 1, none⟩ = some (.string D) := (show w12.cell? ⟨gc, 1, none⟩ = some (.string D) from by have h := HKG.out; unfold World.cell?; rw [h]; rfl)
        have d1 : ((D.size : Int) != k) = false := bne_eq_false_iff_eq.mpr HDS.out
        clear HW12
        go_region_held3 (fun w' => w'.cell? ⟨gc, 0, none⟩ = some (.int .u64 (m : Int)) ∧ w'.cell? ⟨gc, 1, none⟩ = some (.string D)) (first | exact ⟨x1, x2⟩ | exact ⟨y1, y2⟩ | go_keep)
          (first | (go_at_call 11; refine (num_calls _ _).mono ?_; rintro e _ ⟨rfl, rfl⟩) | (go_at_call 14; refine (size_calls _ hb _ k m _ (HR12.out.below (below_drew (Below.refl _ _)))).mono ?_; rintro e w13 ⟨rfl, hb13⟩; have y1 := (hb13.cell (World.block_lt_of_cell? _ _ x1)).trans x1; have y2 := (hb13.cell (World.block_lt_of_cell? _ _ x2)).trans x2; have HBW13 := Aside0.mk (show Below w12.heap.size w12 w13 from below_weaken (below_drew (Below.refl _ _)) (Nat.le_refl _) hb13); clear hb13))
        have HR13 := Aside0.mk (HR12.out.below HBW13.out)
        have HB13 := Aside0.mk (below_weaken HB12.out HB12.out.size HBW13.out)
        have HT13 := Aside0.mk (HT12.out.below HBW13.out)
        have HZ13 := Aside0.mk (Nat.le_trans HZ12.out HBW13.out.size)
        have HKG13 := Aside0.mk (blk_below HKG.out HBW13.out)
        clear x1 x2 d1
        go_wp2_with (first | (go_at_call 11; refine (num_calls _ _).mono ?_; rintro e _ ⟨rfl, rfl⟩) | ((with_reducible refine gate_builtin (b := .append) (xs := #[.tmp 116, .tmp 118]) rfl ?_); at_builtin; refine Kd.R_append kR (w0 := w13) 0 rfl (.tmp 116) (.tmp 118) 31 34 (.agg #[.int .u64 0, .string ⟨#[]⟩]) 24 rfl Try.underlying31 (by kernel_rfl) rfl (by decide) (by omega) u8 S (⟨(m : Int), D⟩ : SR) [.int .u64 (m : Int), .string D] (fun j => B2 ≤ j ∧ some j ≠ v9.ownBlock) (fun _ => False) rfl ?hx ?aP (fun _ hk => hk.elim) ?aF ?aO ?aB ?aS ?aL ?_; (case hx => first | rfl | (go_simp; done) | (simp [World.alloc]; done)); (case aP => exact kR_mkM _ _ _ (⟨(m : Int), D⟩ : SR)); (case aF => exact HT13.out.freshS HZ13.out); (case aO => exact HT13.out.rts); (case aB => exact Below.refl _ _); (case aS => exact Nat.zero_le _); (case aL => have := HSL.out; omega); intro v14 w14 ho hb14 hg14 hat; have HT14 := Aside0.mk (HT13.out.rooted ho hg14 hat); have HKP14 := Aside0.mk (Kp.grown (Kp.refl w13 (fun j => B2 ≤ j)) hg14 (fun j hj => .inl (HT13.out.ownS j hj))); clear ho hb14 hg14 hat))
        go_roundg k1
        case measure => exact Nat.lt_succ_self _
        case rel =>
          have ef : fits (f.take (i + 1)) = L1 := by rw [HL1.out, HLe.out, HXE.out]; exact fits_yes f i HIL.out (by rw [← HXE.out]; have := HBIG.out; omega)
          exact ⟨i + 1, _, _, by rw [u3]; rfl, ⟨by have := HI.out; omega⟩, HT14, ⟨by rw [ef]; exact HRO1.out⟩, ⟨by rw [ef]; exact HRT1.out⟩, ⟨by rw [ef, HL1L.out]; exact HR13.out.kept HKP14.out (fun j hj h => by have := hj.2; have := HBg.out; have := HG2.out; omega)⟩, ⟨Kp.old HB13.out HB13.out.size HKP14.out (fun j hj => Nat.le_trans HWB2.out hj)⟩, ⟨Nat.le_trans HZ13.out HKP14.out.size⟩, ⟨_, _, (HKP14.out.keep gc (blkLt HKG13.out) (fun hj => by have := HG2.out; omega)).trans HKG13.out⟩⟩
end Go.Proofs.Ytelhpamhnnjgaaa.Fo
