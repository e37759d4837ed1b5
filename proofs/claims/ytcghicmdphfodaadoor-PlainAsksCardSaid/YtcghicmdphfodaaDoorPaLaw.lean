/- massiflaw08.PlainAsks: few, lent, whole, and the walk of the law. No condition beyond those that each theorem names. -/
import Derived.Test.YtcghicmdphfodaaDoorQPlainAsks
import Derived.Test.YtcghicmdphfodaaDoorMB
import Derived.Test.YtcghicmdphfodaaDoorOb
import Derived.Test.YtcghicmdphfodaaDoorWq
import Derived.Test.YtcghicmdphfodaaDoorWKept
import Derived.Carry
import Derived.Deep.RegionHeld3
import Derived.StillTailTactics
import Derived.WalkMore
set_option linter.unusedVariables false
set_option linter.unusedSimpArgs false
namespace Go.Proofs.YtcghicmdphfodaaDoor.Pa
open Go.RowKit Go.Proofs.YtcghicmdphfodaaDoor Go.Proofs.YtcghicmdphfodaaDoor.MB Go.Proofs.YtcghicmdphfodaaDoorW.PrintWords Go.Proofs.YtcghicmdphfodaaDoorW.PrintLast Go.Proofs.YtcghicmdphfodaaDoorW.PrintMore Go.Proofs.YtcghicmdphfodaaDoor.PPlainAsks Go.Proofs.YtcghicmdphfodaaDoor.Ob Go.Proofs.YtcghicmdphfodaaDoor.Wq Go.Proofs.YtcghicmdphfodaaDoor.Sha
def mark : ByteArray := ⟨#[109, 97, 114, 107]⟩
theorem one_cell {w : World} {g : Nat} {s : ByteArray} {t : TypeId} (h : w.heap[g]? = some (.cells #[.string s] t (0, 0))) : Kd.C Kd.string w (some ⟨g, 0, none⟩) 1 [s] := by
  refine Kd.C_of_reads (h1 := fun _ => rfl) (d := ByteArray.empty) ⟨rfl, by simp [maxLen], fun _ => ⟨⟨g, 0, none⟩, rfl, fun i hi => ?_⟩⟩
  have e : i = 0 := by simp at hi; omega
  subst e
  simp [World.cell?, h, Addr.add]
set_option maxHeartbeats 40000000 in
set_option maxRecDepth 100000 in
theorem lent_calls (w : World) (A : Option Addr) (c : Nat) (l : List ByteArray) (hC : Kd.C Kd.string w A l.length l) (hc : l.length ≤ c) (hl : l.length * 16 ≤ 140737488351232) :
    Calls Tryd.prog 44 #[.slice A l.length c] w fun e w' => ∃ g cap, e = .returned (.slice (some ⟨g, 0, none⟩) l.length cap) ∧ Kd.R Kd.string 9 w' 0 (fun j => w.heap.size ≤ j) (.slice (some ⟨g, 0, none⟩) (l.length + 1) cap) (l ++ [mark]) ∧ Below w.heap.size w w' := by
  have HC := Aside0.mk hC
  have HCC := Aside0.mk hc
  obtain ⟨N, hN⟩ : ∃ N, N = l.length := ⟨_, rfl⟩
  have HL := Aside0.mk hl
  have HN := Aside0.mk hN
  rw [← hN] at HL ⊢
  clear hC hc hl hN
  go_enter Tryd.func44, Tryd.ntmps44
  go_wp2_with (first
    | ((with_reducible refine gate_builtin (b := .append) (xs := #[.const (.slice none 0 0), .tmp 3]) rfl ?_); at_builtin; refine Kd.R_append_rows Kd.string (w0 := w) 0 rfl (.const (.slice none 0 0)) (.tmp 3) 22 9 (.string ⟨#[]⟩) 16 rfl Tryd.underlying22 (by kernel_rfl) rfl (by decide) (by omega) (.slice none 0 0) ([] : List ByteArray) l A N c (fun j => w.heap.size ≤ j) (fun _ => False) rfl rfl ?aO ?aR (fun _ _ h => h) (fun _ h => h.elim) ?aF ?aB ?aS ?aL ?_; (case aO => exact Kd.R_nil _ _ _ _ _); (case aR => rw [HN.out]; exact HC.out); (case aF => exact fun j hj => hj); (case aB => exact Below.refl _ _); (case aS => exact Nat.zero_le _); (case aL => have h1 := HL.out; have h2 := HN.out; simp; omega); intro vs v1 ho hb5 hg5 hat; have HO1 := Aside0.mk ho; have HG1 := Aside0.mk hg5; clear ho hb5 hg5 hat)
    | ((with_reducible refine gate_builtin (b := .append) (xs := #[.tmp 4, .tmp 5]) rfl ?_); at_builtin; refine Kd.R_append_rows Kd.string (w0 := v1.alloc (.cells #[.string mark] 9)) 0 rfl (.tmp 4) (.tmp 5) 22 9 (.string ⟨#[]⟩) 16 rfl Tryd.underlying22 (by kernel_rfl) rfl (by decide) (by omega) vs l [mark] (some ⟨v1.heap.size, 0, none⟩) 1 1 (fun j => w.heap.size ≤ j) (fun _ => False) rfl rfl ?aO ?aR (fun _ _ h => h) (fun _ h => h.elim) ?aF ?aB ?aS ?aL ?_; (case aO => exact Kd.R_below HO1.out (below_alloc (Below.refl _ _) _)); (case aR => exact one_cell (blk_new _ _)); (case aF => exact fun j hj => Nat.le_trans (Nat.le_trans HG1.out.size (below_alloc (Below.refl _ v1) _).size) hj); (case aB => exact Below.refl _ _); (case aS => exact Nat.zero_le _); (case aL => have h1 := HL.out; have h2 := HN.out; simp; omega); intro vt v2 ho hb6 hg6 hat; obtain ⟨g, cap, ev, _⟩ := Kd.R_form ho (by simp); subst ev; have HO2 := Aside0.mk ho; have HG2 := Aside0.mk hg6; have hle := (Kd.R_reads' ho).2.1; clear ho hb6 hg6 hat; have hlN : (l ++ [mark]).length = N + 1 := (by rw [List.length_append, ← HN.out]; rfl); rw [hlN] at HO2 hle ⊢; have q1 : (N : Int) ≤ (cap : Int) := (by omega); have q2 : N ≤ cap := (by omega); have q3 : (0 : Int) ≤ (N : Int) := (by omega); clear hle hlN))
  go_ret
  refine ⟨g, cap, rfl, HO2.out, ?_⟩
  have hb1 := Kp.old (Below.refl _ w) (Nat.le_refl _) (Kp.grown (Kp.refl w (fun j => w.heap.size ≤ j)) HG1.out (fun j hj => by cases hj)) (fun _ h => h)
  have hb2 := below_alloc (Below.refl _ v1) (.cells #[.string mark] 9)
  have hb3 := below_weaken hb1 hb1.size hb2
  exact Kp.old hb3 hb3.size (Kp.grown (Kp.refl _ (fun j => w.heap.size ≤ j)) HG2.out (fun j hj => .inl (HO1.out.1 j hj))) (fun _ h => h)
theorem lent_C {w : World} {g cap : Nat} {ok : Nat → Prop} {l : List ByteArray} (hR : Kd.R Kd.string 9 w 0 ok (.slice (some ⟨g, 0, none⟩) (l.length + 1) cap) (l ++ [mark])) : Kd.C Kd.string w (some ⟨g, 0, none⟩) l.length l ∧ l.length ≤ cap := by
  have h := Kd.R_reads' hR
  have hC := Kd.C_take (m := l.length) h.2.2 (by rw [List.length_append]; omega)
  rw [List.take_left' rfl] at hC
  refine ⟨hC, ?_⟩
  have := h.2.1; omega
theorem few_calls (w : World) (A : Option Addr) (c : Nat) (l : List ByteArray) (hC : Kd.C Kd.string w A l.length l) (hc : l.length ≤ c) :
    Calls Tryd.prog 40 #[.slice A l.length c] w fun e w' => ∃ A' c', e = .returned (.slice A' (fewL l).length c') ∧ Kd.C Kd.string w' A' (fewL l).length (fewL l) ∧ (fewL l).length ≤ c' ∧ Below w.heap.size w w' := by
  refine (massiflaw08_few.calls (fun k => k < w.heap.size) A c l (fewL l) w (Kd.V_mk hc (Kd.C_F Kd.heap_string hC)) (massiflaw08_few.is l)).mono ?_
  rintro e w' ⟨v, rfl, hV, hb⟩
  obtain ⟨A', c', e⟩ := Kd.V_slice hV
  subst e
  have h := Kd.V_reads' hV
  exact ⟨A', c', rfl, h.2.2, h.2.1, hb⟩
set_option maxHeartbeats 40000000 in
set_option maxRecDepth 100000 in
theorem whole_calls (w : World) (g cap : Nat) (A : Option Addr) (c : Nat) (l : List ByteArray) (ok : Nat → Prop) (hR : Kd.R Kd.string 9 w 0 ok (.slice (some ⟨g, 0, none⟩) (l.length + 1) cap) (l ++ [mark])) (hC : Kd.C Kd.string w A l.length l) (hc : l.length ≤ c) (hl : l.length ≤ 300) :
    Calls Tryd.prog 49 #[.slice (some ⟨g, 0, none⟩) l.length cap, .slice A l.length c] w fun e w' => e = .returned (.bool true) ∧ Below w.heap.size w w' := by
  have hL := lent_C hR
  have hsame := massiflaw08_same.calls 1000 (some ⟨g, 0, none⟩) cap l A c l true w hL.1 hL.2 hC hc (massiflaw08_same.is 1000 l (by omega) (by omega))
  obtain ⟨N, hN⟩ : ∃ N, N = l.length := ⟨_, rfl⟩
  have hcap := (Kd.R_reads' hR).2.1
  rw [← hN] at hcap
  have HY0 := Aside0.mk (show w.cell? ⟨g, N, none⟩ = some (.string mark) from by
    have h := (Kd.R_celln ByteArray.empty hR (N : Int) (by omega) (by omega)).1
    rw [Int.toNat_natCast] at h
    rw [h]; unfold rdOf
    rw [Int.toNat_natCast, List.getD_eq_getElem?_getD, List.getElem?_append_right (by omega), show N - l.length = 0 from by omega]; rfl)
  have HSM := Aside0.mk hsame
  have b1 : -9223372036854775808 ≤ (N : Int) + 1 ∧ (N : Int) + 1 ≤ 9223372036854775807 := by omega
  have p1 : (0 : Int) ≤ (N : Int) := by omega
  have p2 : (0 : Int) ≤ (N : Int) + 1 := by omega
  have p4 : (N : Int) + 1 ≤ (cap : Int) := by omega
  have p6 : (N : Int) < (N : Int) + 1 := by omega
  have n1 : ((N : Int) + 1).toNat = N + 1 := by omega
  have p8 : N < N + 1 := by omega
  have u1 : wrap64 ((N : Int) + 1) = (N : Int) + 1 := MB.wrap64_in _ b1.1 b1.2
  rw [← hN] at HSM ⊢
  clear hR hC hc hl hN hcap b1 hL hsame
  go_enter Tryd.func49, Tryd.ntmps49
  go_wp2_with (fail)
  refine HSM.out.mono ?_
  rintro e w1 ⟨rfl, hb⟩
  have hb : Below w.heap.size w w1 := by first | exact hb | exact hb.below
  have HB := Aside0.mk hb
  have y0 : w1.cell? ⟨g, N, none⟩ = some (.string mark) := (hb.cell (World.block_lt_of_cell? _ _ HY0.out)).trans HY0.out
  have hm : (mark.toList == ([109, 97, 114, 107] : List UInt8)) = true := by decide +kernel
  clear hb
  go_wp2_with (fail)
  go_ret
  exact ⟨by rfl, HB.out⟩
set_option maxHeartbeats 40000000 in
set_option maxRecDepth 100000 in
theorem asks_calls (k h i : Int) (hi : 0 ≤ i ∧ i < 18446744073709551616) (A : Option Addr) (c : Nat) (l : List ByteArray) (w : World) (hC : Kd.C Kd.string w A l.length l) (hc : l.length ≤ c) (hls : ∀ s ∈ l, s.size ≤ 140737488351232) (hg : Sha.Gl w) :
    Calls Tryd.prog 8 #[.int .i64 k, .slice A l.length c, .agg #[.int .i64 h, .int .u64 i]] w fun e w' => e = .returned (.bool true) ∧ Below w.heap.size w w' := by
  have HG := Aside0.mk hg
  have HC := Aside0.mk (And.intro hC hc)
  obtain ⟨L, hL⟩ : ∃ L, L = fewL l := ⟨_, rfl⟩
  have HLL := Aside0.mk (show L.length ≤ 300 from by rw [hL]; exact fewL_len l)
  have hLs : ∀ s ∈ L, s.size ≤ 140737488351232 := fun s hs => hls s (fewL_mem l s (by rw [← hL]; exact hs))
  have HFW := Aside0.mk hL
  obtain ⟨x1, y1, ht1, ht2⟩ := massifref08_Tree.same 5000 k L h i hi HLL.out hLs (by omega)
  obtain ⟨a1, b1, z1, hr1, hr2⟩ := massifref08_Root.same 5000 k L i hi.1 HLL.out hLs (by omega)
  have hp1 := plain_Peaks.is 5000 k L (by have := HLL.out; omega) hLs (by omega)
  have hp2 := massifref08_Peaks.is 5000 k L HLL.out hLs (by omega)
  obtain ⟨Q, hQ⟩ : ∃ Q, Q = MT.pks k L := ⟨_, rfl⟩
  have HQL := Aside0.mk (show Q.length ≤ 41 from by rw [hQ]; exact MT.pkL_len k L _ 41)
  rw [← hQ] at hp1 hp2
  have T1 := Aside0.mk (show ∀ W A' c', Kd.C Kd.string W A' L.length L → L.length ≤ c' → Calls Tryd.prog 45 #[.int .i64 k, .slice A' L.length c', .agg #[.int .i64 h, .int .u64 i]] W fun e w' => e = .returned (.tuple #[.string x1, .bool y1]) ∧ Below W.heap.size W w' from fun W A' c' h1 h2 => (plain_Tree.calls 5000 k A' c' L h i x1 y1 W h1 h2 ht1).mono fun e w' h => ⟨h.1, by first | exact h.2 | exact h.2.below⟩)
  have T2 := Aside0.mk (show ∀ W A' c', Kd.C Kd.string W A' L.length L → L.length ≤ c' → Below w.heap.size w W → Calls Tryd.prog 46 #[.int .i64 k, .slice A' L.length c', .agg #[.int .i64 h, .int .u64 i]] W fun e w' => e = .returned (.tuple #[.string x1, .bool y1]) ∧ Below W.heap.size W w' from fun W A' c' h1 h2 hW => (massifref08_Tree.calls 5000 k A' c' L h i x1 y1 W h1 h2 ht2 (HG.out.below hW)).mono fun e w' h => ⟨h.1, by first | exact h.2 | exact h.2.below⟩)
  have R1 := Aside0.mk (show ∀ W A' c', Kd.C Kd.string W A' L.length L → L.length ≤ c' → Calls Tryd.prog 47 #[.int .i64 k, .slice A' L.length c', .int .u64 i] W fun e w' => e = .returned (.tuple #[.agg #[.int .u64 a1, .string b1], .int .i64 z1]) ∧ Below W.heap.size W w' from fun W A' c' h1 h2 => (plain_Root.calls 5000 k A' c' L i a1 b1 z1 W h1 h2 hr1).mono fun e w' h => ⟨h.1, by first | exact h.2 | exact h.2.below⟩)
  have R2 := Aside0.mk (show ∀ W A' c', Kd.C Kd.string W A' L.length L → L.length ≤ c' → Below w.heap.size w W → Calls Tryd.prog 48 #[.int .i64 k, .slice A' L.length c', .int .u64 i] W fun e w' => e = .returned (.tuple #[.agg #[.int .u64 a1, .string b1], .int .i64 z1]) ∧ Below W.heap.size W w' from fun W A' c' h1 h2 hW => (massifref08_Root.calls 5000 k A' c' L i a1 b1 z1 W h1 h2 hr2 (HG.out.below hW)).mono fun e w' h => ⟨h.1, by first | exact h.2 | exact h.2.below⟩)
  have P1 := Aside0.mk (show ∀ W A' c', Kd.C Kd.string W A' L.length L → L.length ≤ c' → Calls Tryd.prog 41 #[.int .i64 k, .slice A' L.length c'] W fun e w' => ∃ B d, e = .returned (.slice B Q.length d) ∧ Kd.C Kd.string w' B Q.length Q ∧ Q.length ≤ d ∧ Below W.heap.size W w' from fun W A' c' h1 h2 => (plain_Peaks.calls 5000 k (fun k => k < W.heap.size) A' c' L Q W (Kd.V_mk h2 (Kd.C_F Kd.heap_string h1)) hp1).mono fun e w' ⟨v, h3, h4, h5⟩ => by
    obtain ⟨B, d, e4, h6, h7⟩ := Kd.R_reads h4
    subst e4
    exact ⟨B, d, h3, h7, h6, h5⟩)
  have P2 := Aside0.mk (show ∀ W A' c', Kd.C Kd.string W A' L.length L → L.length ≤ c' → Below w.heap.size w W → Calls Tryd.prog 43 #[.int .i64 k, .slice A' L.length c'] W fun e w' => ∃ B d, e = .returned (.slice B Q.length d) ∧ Kd.C Kd.string w' B Q.length Q ∧ Q.length ≤ d ∧ Below W.heap.size W w' from fun W A' c' h1 h2 hW => (massifref08_Peaks.calls 5000 k A' c' L Q W h1 h2 hp2 (HG.out.below hW)).mono fun e w' ⟨v, h3, h4, h5⟩ => by
    obtain ⟨B, d, e4, h6, h7⟩ := Kd.R_reads h4
    subst e4
    exact ⟨B, d, h3, h7, h6, h5⟩)
  clear hg hC hc hi hls hL hLs ht1 ht2 hr1 hr2 hp1 hp2 hQ
  go_enter Tryd.func8, Tryd.ntmps8
  go_wp2_with (fail)
  obtain ⟨w0, hw0⟩ : ∃ x, x = w.alloc (.cells #[.int .i64 h, .int .u64 i] 52) := ⟨_, rfl⟩
  have hc0 : w0.heap[w.heap.size]? = some (.cells #[.int .i64 h, .int .u64 i] 52 (0, 0)) := by rw [hw0]; exact blk_new _ _
  have HB0 := Aside0.mk (show Below w.heap.size w w0 from by rw [hw0]; exact below_alloc (Below.refl _ _) _)
  have HE := Aside0.mk (show ∀ W, Below w0.heap.size w0 W → W.cell? ⟨w.heap.size, 0, none⟩ = some (.int .i64 h) ∧ W.cell? ⟨w.heap.size, 1, none⟩ = some (.int .u64 i) from fun W hW => ⟨by rw [blk_cell (blk_below hc0 hW)]; rfl, by rw [blk_cell (blk_below hc0 hW)]; rfl⟩)
  have HZ := Aside0.mk (show ∀ W, Below w0.heap.size w0 W → Below w.heap.size w W from fun W hW => below_weaken HB0.out HB0.out.size hW)
  rw [← hw0]
  clear hw0 hc0
  refine (massiflaw08_alive.calls 5000 true w0 (massiflaw08_alive.is 5000 (by omega))).mono ?_
  rintro e w1 ⟨rfl, hb1⟩
  have HB1 := Aside0.mk (show Below w0.heap.size w0 w1 from by first | exact hb1 | exact hb1.below)
  clear hb1
  go_wp2_with (fail)
  refine (few_calls w1 A c l (Kd.C_below HC.out.1 (HZ.out _ HB1.out)) HC.out.2).mono ?_
  rw [← HFW.out]
  rintro e w2 ⟨A2, c2, rfl, hc2, hl2, hb2⟩
  have HB2 := Aside0.mk (below_weaken HB1.out HB1.out.size hb2)
  have HA2 := Aside0.mk hc2
  have HAL := Aside0.mk hl2
  clear hb2 hc2 hl2
  go_wp2_with (fail)
  refine (lent_calls w2 A2 c2 L HA2.out HAL.out (by have := HLL.out; omega)).mono ?_
  rintro e w3 ⟨g, cap, rfl, hR, hb3⟩
  have HB3 := Aside0.mk (below_weaken HB2.out HB2.out.size hb3)
  have HR3 := Aside0.mk hR
  have HA3 := Aside0.mk (Kd.C_below HA2.out hb3)
  clear hR hb3
  obtain ⟨e0, e1⟩ := HE.out w3 HB3.out
  go_wp2_with (fail)
  clear e0 e1
  refine (T1.out w3 _ _ (lent_C HR3.out).1 (lent_C HR3.out).2).mono ?_
  rintro e w4 ⟨rfl, hb4⟩
  have HB4 := Aside0.mk (below_weaken HB3.out HB3.out.size hb4)
  have HR4 := Aside0.mk (Kd.R_below HR3.out hb4)
  have HA4 := Aside0.mk (Kd.C_below HA3.out hb4)
  clear hb4
  obtain ⟨e0, e1⟩ := HE.out w4 HB4.out
  go_wp2_with (fail)
  clear e0 e1
  refine (T2.out w4 _ _ HA4.out HAL.out (HZ.out _ HB4.out)).mono ?_
  rintro e w5 ⟨rfl, hb5⟩
  have HB5 := Aside0.mk (below_weaken HB4.out HB4.out.size hb5)
  have HR5 := Aside0.mk (Kd.R_below HR4.out hb5)
  have HA5 := Aside0.mk (Kd.C_below HA4.out hb5)
  clear hb5
  obtain ⟨e0, e1⟩ := HE.out w5 HB5.out
  go_wp2_with (fail)
  clear e0 e1
  refine (R1.out w5 _ _ (lent_C HR5.out).1 (lent_C HR5.out).2).mono ?_
  rintro e w6 ⟨rfl, hb6⟩
  have HB6 := Aside0.mk (below_weaken HB5.out HB5.out.size hb6)
  have HR6 := Aside0.mk (Kd.R_below HR5.out hb6)
  have HA6 := Aside0.mk (Kd.C_below HA5.out hb6)
  clear hb6
  go_wp2_with (first
    | (refine wpList_alloc' rfl 56 rfl #[.int .u64 0, .string ⟨#[]⟩] (by kernel_rfl) ?_; intro u6 hu6; have HU6 := Aside0.mk hu6; clear hu6)
    | (refine wpList_store_row' rfl 56 (.tmp 12) (.tmp 42) rfl w6.heap.size rfl #[.int .u64 a1, .string b1] rfl #[.int .u64 0, .string ⟨#[]⟩] 56 (by rw [HU6.out]; exact blk_new _ _) rfl (by kernel_rfl) (by intro v hv; simp at hv; rcases hv with rfl | rfl <;> rfl) ?_; intro w7 hw7;
       have HQ7 := Aside0.mk (show w7.heap[w6.heap.size]? = some (.cells #[.int .u64 a1, .string b1] 56 (0, 0)) from by rw [hw7]; exact setRow_heap _ _ _ _ _ _ (by rw [HU6.out]; exact blk_new _ _));
       have hb7 : Below w6.heap.size w6 w7 := (by rw [hw7, HU6.out, setRow_new _ _ _ _ _ rfl]; exact below_alloc (Below.refl _ _) _);
       have HB7 := Aside0.mk (below_weaken HB6.out HB6.out.size hb7); have HR7 := Aside0.mk (Kd.R_below HR6.out hb7); have HA7 := Aside0.mk (Kd.C_below HA6.out hb7); clear hb7 hw7; obtain ⟨e0, e1⟩ := HE.out w7 HB7.out))
  clear e0 e1
  refine (R2.out w7 _ _ HA7.out HAL.out (HZ.out _ HB7.out)).mono ?_
  rintro e w8 ⟨rfl, hb8⟩
  have HB8 := Aside0.mk (below_weaken HB7.out HB7.out.size hb8)
  have HR8 := Aside0.mk (Kd.R_below HR7.out hb8)
  have HA8 := Aside0.mk (Kd.C_below HA7.out hb8)
  have HQ8 := Aside0.mk (blk_below HQ7.out hb8)
  clear hb8
  go_wp2_with (first
    | (refine wpList_alloc' rfl 56 rfl #[.int .u64 0, .string ⟨#[]⟩] (by kernel_rfl) ?_; intro u8 hu8; have HU8 := Aside0.mk hu8; clear hu8)
    | (refine wpList_store_row' rfl 56 (.tmp 14) (.tmp 50) rfl w8.heap.size rfl #[.int .u64 a1, .string b1] rfl #[.int .u64 0, .string ⟨#[]⟩] 56 (by rw [HU8.out]; exact blk_new _ _) rfl (by kernel_rfl) (by intro v hv; simp at hv; rcases hv with rfl | rfl <;> rfl) ?_; intro w9 hw9;
       have HS9 := Aside0.mk (show w9.heap[w8.heap.size]? = some (.cells #[.int .u64 a1, .string b1] 56 (0, 0)) from by rw [hw9]; exact setRow_heap _ _ _ _ _ _ (by rw [HU8.out]; exact blk_new _ _));
       have hb9 : Below w8.heap.size w8 w9 := (by rw [hw9, HU8.out, setRow_new _ _ _ _ _ rfl]; exact below_alloc (Below.refl _ _) _);
       have HB9 := Aside0.mk (below_weaken HB8.out HB8.out.size hb9); have HR9 := Aside0.mk (Kd.R_below HR8.out hb9); have HA9 := Aside0.mk (Kd.C_below HA8.out hb9); have HQ9 := Aside0.mk (blk_below HQ8.out hb9); clear hb9 hw9;
       have q0 : w9.cell? ⟨w6.heap.size, 0, none⟩ = some (.int .u64 a1) := (by rw [blk_cell HQ9.out]; rfl); have q1 : w9.cell? ⟨w6.heap.size, 1, none⟩ = some (.string b1) := (by rw [blk_cell HQ9.out]; rfl);
       have r0 : w9.cell? ⟨w8.heap.size, 0, none⟩ = some (.int .u64 a1) := (by rw [blk_cell HS9.out]; rfl); have r1 : w9.cell? ⟨w8.heap.size, 1, none⟩ = some (.string b1) := (by rw [blk_cell HS9.out]; rfl)))
  clear q0 q1 r0 r1
  refine (P1.out w9 _ _ (lent_C HR9.out).1 (lent_C HR9.out).2).mono ?_
  rintro e w10 ⟨B1, d1, rfl, hC1, hd1, hb10⟩
  have HB10 := Aside0.mk (below_weaken HB9.out HB9.out.size hb10)
  have HR10 := Aside0.mk (Kd.R_below HR9.out hb10)
  have HA10 := Aside0.mk (Kd.C_below HA9.out hb10)
  have HC1 := Aside0.mk hC1
  have HD1 := Aside0.mk hd1
  clear hb10 hC1 hd1
  go_wp2_with (fail)
  refine (P2.out w10 _ _ HA10.out HAL.out (HZ.out _ HB10.out)).mono ?_
  rintro e w11 ⟨B2, d2, rfl, hC2, hd2, hb11⟩
  have HB11 := Aside0.mk (below_weaken HB10.out HB10.out.size hb11)
  have HR11 := Aside0.mk (Kd.R_below HR10.out hb11)
  have HA11 := Aside0.mk (Kd.C_below HA10.out hb11)
  have HC11 := Aside0.mk (Kd.C_below HC1.out hb11)
  have HC2 := Aside0.mk hC2
  have HD2 := Aside0.mk hd2
  clear hb11 hC2 hd2
  go_wp2_with (fail)
  refine (massiflaw08_same.calls 1000 B1 d1 Q B2 d2 Q true w11 HC11.out HD1.out HC2.out HD2.out (massiflaw08_same.is 1000 Q (by have := HQL.out; omega) (by have := HQL.out; omega))).mono ?_
  rintro e w12 ⟨rfl, hb12⟩
  have hb12 : Below w11.heap.size w11 w12 := by first | exact hb12 | exact hb12.below
  have HB12 := Aside0.mk (below_weaken HB11.out HB11.out.size hb12)
  have HR12 := Aside0.mk (Kd.R_below HR11.out hb12)
  have HA12 := Aside0.mk (Kd.C_below HA11.out hb12)
  clear hb12
  go_wp2_with (fail)
  refine (whole_calls w12 g cap A2 c2 L _ HR12.out HA12.out HAL.out HLL.out).mono ?_
  rintro e w13 ⟨rfl, hb13⟩
  have HBF := Aside0.mk (HZ.out _ (below_weaken HB12.out HB12.out.size hb13))
  clear hb13
  go_wp2_with (fail)
  go_ret
  exact ⟨rfl, HBF.out⟩
end Go.Proofs.YtcghicmdphfodaaDoor.Pa
