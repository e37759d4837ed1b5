/- massiflaw07.HashAsks: roomy, whole, and the walk of the law. No condition beyond those that each theorem names. -/
import Derived.Test.YtcghicmdphfodaaDoorQHashAsks
import Derived.Test.YtcghicmdphfodaaDoorMB
import Derived.Test.YtcghicmdphfodaaDoorOb
import Derived.Test.YtcghicmdphfodaaDoorWq
import Derived.Test.YtcghicmdphfodaaDoorWKept
import Derived.Carry
import Derived.Deep.RegionHeld3
import Derived.StillTailTactics
import Derived.WalkMore
set_option linter.unusedVariables false
set_option linter.unusedSimpArgs false
namespace Go.Proofs.YtcghicmdphfodaaDoor.Ha
open Go.RowKit Go.Proofs.YtcghicmdphfodaaDoor Go.Proofs.YtcghicmdphfodaaDoor.MB Go.Proofs.YtcghicmdphfodaaDoorW.PrintWords Go.Proofs.YtcghicmdphfodaaDoorW.PrintLast Go.Proofs.YtcghicmdphfodaaDoorW.PrintMore Go.Proofs.YtcghicmdphfodaaDoor.PHashAsks Go.Proofs.YtcghicmdphfodaaDoor.Ob Go.Proofs.YtcghicmdphfodaaDoor.Wq
def mark : ByteArray := ⟨#[109, 97, 114, 107]⟩
theorem one_cell {w : World} {g : Nat} {s : ByteArray} {t : TypeId} (h : w.heap[g]? = some (.cells #[.string s] t (0, 0))) : Kd.C Kd.string w (some ⟨g, 0, none⟩) 1 [s] := by
  refine Kd.C_of_reads (h1 := fun _ => rfl) (d := ByteArray.empty) ⟨rfl, by simp [maxLen], fun _ => ⟨⟨g, 0, none⟩, rfl, fun i hi => ?_⟩⟩
  have e : i = 0 := by simp at hi; omega
  subst e
  simp [World.cell?, h, Addr.add]
set_option maxHeartbeats 40000000 in
set_option maxRecDepth 100000 in
theorem roomy_calls (w : World) (A : Option Addr) (c : Nat) (l : List ByteArray) (hC : Kd.C Kd.string w A l.length l) (hc : l.length ≤ c) (hl : l.length * 16 ≤ 140737488351232) :
    Calls Tryd.prog 18 #[.slice A l.length c] w fun e w' => ∃ g cap, e = .returned (.slice (some ⟨g, 0, none⟩) l.length cap) ∧ Kd.R Kd.string 9 w' 0 (fun j => w.heap.size ≤ j) (.slice (some ⟨g, 0, none⟩) (l.length + 1) cap) (l ++ [mark]) ∧ Below w.heap.size w w' := by
  have HC := Aside0.mk hC
  have HCC := Aside0.mk hc
  obtain ⟨N, hN⟩ : ∃ N, N = l.length := ⟨_, rfl⟩
  have HL := Aside0.mk hl
  have HN := Aside0.mk hN
  rw [← hN] at HL ⊢
  clear hC hc hl hN
  go_enter Tryd.func18, Tryd.ntmps18
  go_wp2_with (first
    | ((with_reducible refine gate_builtin (b := .append) (xs := #[.const (.slice none 0 0), .tmp 3]) rfl ?_); at_builtin; refine Kd.R_append_rows Kd.string (w0 := w) 0 rfl (.const (.slice none 0 0)) (.tmp 3) 22 9 (.string ⟨#[]⟩) 16 rfl Tryd.underlying22 (by kernel_rfl) rfl (by decide) (by omega) (.slice none 0 0) ([] : List ByteArray) l A N c (fun j => w.heap.size ≤ j) (fun _ => False) rfl rfl ?aO ?aR (fun _ _ h => h) (fun _ h => h.elim) ?aF ?aB ?aS ?aL ?_; (case aO => exact Kd.R_nil _ _ _ _ _); (case aR => rw [HN.out]; exact HC.out); (case aF => exact fun j hj => hj); (case aB => exact Below.refl _ _); (case aS => exact Nat.zero_le _); (case aL => have h1 := HL.out; have h2 := HN.out; simp; omega); intro vs v1 ho hb5 hg5 hat; have HO1 := Aside0.mk ho; have HG1 := Aside0.mk hg5; clear ho hb5 hg5 hat)
    | ((with_reducible refine gate_builtin (b := .append) (xs := #[.tmp 4, .tmp 5]) rfl ?_); at_builtin; refine Kd.R_append_rows Kd.string (w0 := v1.alloc (.cells #[.string mark] 9)) 0 rfl (.tmp 4) (.tmp 5) 22 9 (.string ⟨#[]⟩) 16 rfl Tryd.underlying22 (by kernel_rfl) rfl (by decide) (by omega) vs l [mark] (some ⟨v1.heap.size, 0, none⟩) 1 1 (fun j => w.heap.size ≤ j) (fun _ => False) rfl rfl ?aO ?aR (fun _ _ h => h) (fun _ h => h.elim) ?aF ?aB ?aS ?aL ?_; (case aO => exact Kd.R_below HO1.out (below_alloc (Below.refl _ _) _)); (case aR => exact one_cell (blk_new _ _)); (case aF => exact fun j hj => Nat.le_trans (Nat.le_trans HG1.out.size (below_alloc (Below.refl _ v1) _).size) hj); (case aB => exact Below.refl _ _); (case aS => exact Nat.zero_le _); (case aL => have h1 := HL.out; have h2 := HN.out; simp; omega); intro vt v2 ho hb6 hg6 hat; obtain ⟨g, cap, ev, _⟩ := Kd.R_form ho (by simp); subst ev; have HO2 := Aside0.mk ho; have HG2 := Aside0.mk hg6; have hle := (Kd.R_reads' ho).2.1; clear ho hb6 hg6 hat; have hlN : (l ++ [mark]).length = N + 1 := (by rw [List.length_append, ← HN.out]; rfl); rw [hlN] at HO2 hle ⊢; have q1 : (N : Int) ≤ (cap : Int) := (by omega); have q2 : N ≤ cap := (by omega); have q3 : (0 : Int) ≤ (N : Int) := (by omega); clear hle hlN))
  go_ret
  refine ⟨g, cap, rfl, HO2.out, ?_⟩
  have hb1 := Kp.old (Below.refl _ w) (Nat.le_refl _) (Kp.grown (Kp.refl w (fun j => w.heap.size ≤ j)) HG1.out (fun j hj => by cases hj)) (fun _ h => h)
  have hb2 := below_alloc (Below.refl _ v1) (.cells #[.string mark] 9)
  have hb3 := below_weaken hb1 hb1.size hb2
  exact Kp.old hb3 hb3.size (Kp.grown (Kp.refl _ (fun j => w.heap.size ≤ j)) HG2.out (fun j hj => .inl (HO1.out.1 j hj))) (fun _ h => h)
set_option maxHeartbeats 40000000 in
set_option maxRecDepth 100000 in
theorem whole_calls (w : World) (g cap : Nat) (A : Option Addr) (c : Nat) (l : List ByteArray) (ok : Nat → Prop) (hR : Kd.R Kd.string 9 w 0 ok (.slice (some ⟨g, 0, none⟩) (l.length + 1) cap) (l ++ [mark])) (hC : Kd.C Kd.string w A l.length l) (hc : l.length ≤ c) (hl : l.length * 16 ≤ 140737488351232) :
    Calls Tryd.prog 38 #[.slice (some ⟨g, 0, none⟩) l.length cap, .slice A l.length c] w fun e w' => e = .returned (.bool true) ∧ Below w.heap.size w w' := by
  obtain ⟨N, hN⟩ : ∃ N, N = l.length := ⟨_, rfl⟩
  have hcap := (Kd.R_reads' hR).2.1
  rw [← hN] at hcap
  have hcell : ∀ i, i < N + 1 → w.cell? ⟨g, i, none⟩ = some (.string (rdOf ByteArray.empty (l ++ [mark]) (i : Int))) := fun i hi => by
    have h := (Kd.R_celln ByteArray.empty hR (i : Int) (by omega) (by omega)).1
    rw [Int.toNat_natCast] at h; exact h
  have HY0 := Aside0.mk (show w.cell? ⟨g, N, none⟩ = some (.string mark) from by
    rw [hcell N (by omega)]; unfold rdOf
    rw [Int.toNat_natCast, List.getD_eq_getElem?_getD, List.getElem?_append_right (by omega), show N - l.length = 0 from by omega]; rfl)
  have HCL := Aside0.mk (show ∀ i (hi : i < l.length), w.cell? ⟨g, i, none⟩ = some (.string l[i]) from fun i hi => by
    rw [hcell i (by omega)]; unfold rdOf
    rw [Int.toNat_natCast, List.getD_eq_getElem?_getD, List.getElem?_append_left hi, List.getElem?_eq_getElem hi]; rfl)
  have HCA := Aside0.mk (show ∀ i (hi : i < l.length), ∃ ad, A = some ad ∧ w.cell? (ad.add i) = some (.string l[i]) from fun i hi => by
    obtain ⟨ad, e, h⟩ := Kd.at_string hC (i : Int) (by omega) (by omega)
    refine ⟨ad, e, ?_⟩
    rw [Int.toNat_natCast] at h
    rw [h]; unfold rdOf
    rw [Int.toNat_natCast, List.getD_eq_getElem?_getD, List.getElem?_eq_getElem hi]; rfl)
  have HN := Aside0.mk hN
  have HL := Aside0.mk (show N ≤ 8796093021952 from by omega)
  have b1 : -9223372036854775808 ≤ (N : Int) + 1 ∧ (N : Int) + 1 ≤ 9223372036854775807 := by omega
  have p1 : (0 : Int) ≤ (N : Int) := by omega
  have p2 : (0 : Int) ≤ (N : Int) + 1 := by omega
  have p4 : (N : Int) + 1 ≤ (cap : Int) := by omega
  have p6 : (N : Int) < (N : Int) + 1 := by omega
  have n1 : ((N : Int) + 1).toNat = N + 1 := by omega
  have p8 : N < N + 1 := by omega
  have u1 : wrap64 ((N : Int) + 1) = (N : Int) + 1 := MB.wrap64_in _ b1.1 b1.2
  rw [← hN]
  clear hR hC hc hl hN hcap hcell b1
  go_enter Tryd.func38, Tryd.ntmps38
  go_wp2_with (fail)
  go_loopg [5] N (fun kq q5 w' => ∃ i : Nat, q5 = .int .i64 (i : Int) ∧ Aside0 (i + kq = N) ∧ Aside0 (Below w.heap.size w w'))
  case atStart => exact ⟨0, by rfl, ⟨by omega⟩, ⟨Below.refl _ _⟩⟩
  case round =>
    obtain ⟨i, rfl, HI, HB⟩ := hrel
    cases gk with
    | zero =>
      have hlt : decide ((i : Int) < (N : Int)) = false := decide_eq_false (by have := HI.out; clear u1; omega)
      have hlt2 : decide (i < N) = false := decide_eq_false (by have := HI.out; clear u1; omega)
      have y0 : wr.cell? ⟨g, N, none⟩ = some (.string mark) := (HB.out.cell (World.block_lt_of_cell? _ _ HY0.out)).trans HY0.out
      have hm : (mark.toList == ([109, 97, 114, 107] : List UInt8)) = true := by decide +kernel
      go_wp2_with (fail)
      go_ret
      exact ⟨by rfl, HB.out⟩
    | succ k1 =>
      have hil : i < N := by have := HI.out; clear u1; omega
      have hlt : decide ((i : Int) < (N : Int)) = true := decide_eq_true (by clear u1; omega)
      have hlt2 : decide (i < N) = true := decide_eq_true hil
      have q1 : (i : Int) < (N : Int) := by clear u1; omega
      have q2 : (0 : Int) ≤ (i : Int) := Int.natCast_nonneg _
      have u3 : wrap64 ((i : Int) + 1) = (i : Int) + 1 := by have := HL.out; clear u1; exact MB.wrap64_in _ (by omega) (by omega)
      have hll : i < l.length := by rw [← HN.out]; exact hil
      have c1 : wr.cell? ⟨g, i, none⟩ = some (.string l[i]) := (HB.out.cell (World.block_lt_of_cell? _ _ (HCL.out i hll))).trans (HCL.out i hll)
      obtain ⟨ad, eA, c2'⟩ := HCA.out i hll
      have c2 : wr.cell? (ad.add i) = some (.string l[i]) := (HB.out.cell (World.block_lt_of_cell? _ _ c2')).trans c2'
      subst eA
      obtain ⟨s, hs⟩ : ∃ s, s = l[i] := ⟨_, rfl⟩
      rw [← hs] at c1 c2
      have HJ := Aside0.mk (show i + 1 + k1 = N from by have := HI.out; clear u1 u3; omega)
      clear hs c2' hll hil
      go_wp2_with (fail)
      have k0 := cell_regrown c1
      have k1' := cell_regrown c2
      refine region_wq (by kernel_rfl) (by kernel_rfl) ?_
      repeat (refine WQ.step (fun KK hKK => ?_); go_simp; refine hKK _ ?_; clear hKK KK)
      refine WQ.nil ?_
      intro _ hw'
      obtain ⟨⟨dq, osq⟩, hw''⟩ := hw'
      subst hw''
      have HB2 := Aside0.mk (below_weaken HB.out HB.out.size (below_regrown wr dq osq))
      clear k0 k1' c1 c2
      go_wp2_with (fail)
      go_roundg k1
      case measure => exact Nat.lt_succ_self _
      case rel => exact ⟨i + 1, by first | rfl | (rw [u3]; rfl), HJ, HB2⟩
theorem lent_C {w : World} {g cap : Nat} {ok : Nat → Prop} {l : List ByteArray} (hR : Kd.R Kd.string 9 w 0 ok (.slice (some ⟨g, 0, none⟩) (l.length + 1) cap) (l ++ [mark])) : Kd.C Kd.string w (some ⟨g, 0, none⟩) l.length l ∧ l.length ≤ cap := by
  have h := Kd.R_reads' hR
  have hC := Kd.C_take (m := l.length) h.2.2 (by rw [List.length_append]; omega)
  rw [List.take_left' rfl] at hC
  refine ⟨hC, ?_⟩
  have := h.2.1; omega
set_option maxHeartbeats 40000000 in
set_option maxRecDepth 100000 in
theorem asks_calls (k : Int) (a b : ByteArray) (A : Option Addr) (c : Nat) (l : List ByteArray) (w : World) (hC : Kd.C Kd.string w A l.length l) (hc : l.length ≤ c) (hl : l.length * 16 ≤ 140737488351232) (hls : ∀ s ∈ l, s.size ≤ 140737488351232) (ha : a.size ≤ 140737488351232) (hb : b.size ≤ 140737488351232) (hg : Sha.Gl w) :
    Calls Tryd.prog 6 #[.int .i64 k, .agg #[.string a, .string b], .slice A l.length c] w fun e w' => e = .returned (.bool true) ∧ Below w.heap.size w w' := by
  have HG := Aside0.mk hg
  have HC := Aside0.mk (And.intro hC hc)
  have HL := Aside0.mk hl
  have HAB := Aside0.mk (And.intro ha hb)
  obtain ⟨K, hK⟩ : ∃ K : Nat, K = l.length + 20 := ⟨_, rfl⟩
  have v1 : IntKind.u64.wrap (a.size : Int) = (a.size : Int) := MB.wrap_u64_in _ (by omega) (by omega)
  have v2 : IntKind.u64.wrap (b.size : Int) = (b.size : Int) := MB.wrap_u64_in _ (by omega) (by omega)
  obtain ⟨m1, hm1⟩ : ∃ m1, IntKind.u64.wrap ((a.size : Int) * 72057594037927937) = m1 := ⟨_, rfl⟩
  obtain ⟨n, hn⟩ : ∃ n, IntKind.u64.wrap (m1 + (b.size : Int)) = n := ⟨_, rfl⟩
  have hnr : 0 ≤ n ∧ n < 18446744073709551616 := by rw [← hn, show IntKind.u64.wrap (m1 + (b.size : Int)) = (m1 + (b.size : Int)) % 18446744073709551616 from by simp [IntKind.wrap, IntKind.bits, IntKind.signed]]; omega
  obtain ⟨r, hr⟩ : ∃ r : Int, r = if 1 ≤ k ∧ k ≤ 32 then 0 else 70 := ⟨_, rfl⟩
  obtain ⟨TL, hTL⟩ : ∃ z, z = MH.leafT a := ⟨_, rfl⟩
  obtain ⟨TN, hTN⟩ : ∃ z, z = MH.nodeT a b := ⟨_, rfl⟩
  obtain ⟨TB, hTB⟩ : ∃ z, z = MH.bagT a b := ⟨_, rfl⟩
  obtain ⟨TR, hTR⟩ : ∃ z, z = MH.rootT n a := ⟨_, rfl⟩
  obtain ⟨DO, hDO⟩ : ∃ z, z = MH.dig k a := ⟨_, rfl⟩
  obtain ⟨DL, hDL⟩ : ∃ z, z = MH.lf k a := ⟨_, rfl⟩
  obtain ⟨DN, hDN⟩ : ∃ z, z = MH.nd k a b := ⟨_, rfl⟩
  obtain ⟨BG, hBG⟩ : ∃ z, z = MH.bag k l := ⟨_, rfl⟩
  obtain ⟨RD, hRD⟩ : ∃ z, z = MH.rootD k n l := ⟨_, rfl⟩
  have C1 := Aside0.mk (show ∀ W, Below w.heap.size w W → Calls Tryd.prog 19 #[.int .i64 k] W fun e w' => e = .returned (.int .i64 r) ∧ Below W.heap.size W w' from fun W hW => (hash_Check.calls k r W (by rw [hr]; exact hash_Check.is k)).mono fun e w' h => ⟨h.1, by first | exact h.2 | exact h.2.below⟩)
  have C2 := Aside0.mk (show ∀ W, Below w.heap.size w W → Calls Tryd.prog 20 #[.int .i64 k] W fun e w' => e = .returned (.int .i64 r) ∧ Below W.heap.size W w' from fun W hW => (massifref07_Check.calls k r W (by rw [hr]; exact massifref07_Check.is k)).mono fun e w' h => ⟨h.1, by first | exact h.2 | exact h.2.below⟩)
  have C3 := Aside0.mk (show ∀ W, Below w.heap.size w W → Calls Tryd.prog 21 #[.string a] W fun e w' => e = .returned (.string TL) ∧ Below W.heap.size W w' from fun W hW => (hash_LeafText.calls a TL W (by rw [hTL]; exact hash_LeafText.is a (by omega))).mono fun e w' h => ⟨h.1, by first | exact h.2 | exact h.2.below⟩)
  have C4 := Aside0.mk (show ∀ W, Below w.heap.size w W → Calls Tryd.prog 22 #[.string a] W fun e w' => e = .returned (.string TL) ∧ Below W.heap.size W w' from fun W hW => (massifref07_LeafText.calls a TL W (by rw [hTL]; exact massifref07_LeafText.is a (by omega))).mono fun e w' h => ⟨h.1, by first | exact h.2 | exact h.2.below⟩)
  have C5 := Aside0.mk (show ∀ W, Below w.heap.size w W → Calls Tryd.prog 23 #[.string a, .string b] W fun e w' => e = .returned (.string TN) ∧ Below W.heap.size W w' from fun W hW => (hash_NodeText.calls a b TN W (by rw [hTN]; exact hash_NodeText.is a b (by omega))).mono fun e w' h => ⟨h.1, by first | exact h.2 | exact h.2.below⟩)
  have C6 := Aside0.mk (show ∀ W, Below w.heap.size w W → Calls Tryd.prog 24 #[.string a, .string b] W fun e w' => e = .returned (.string TN) ∧ Below W.heap.size W w' from fun W hW => (massifref07_NodeText.calls a b TN W (by rw [hTN]; exact massifref07_NodeText.is a b (by omega))).mono fun e w' h => ⟨h.1, by first | exact h.2 | exact h.2.below⟩)
  have C7 := Aside0.mk (show ∀ W, Below w.heap.size w W → Calls Tryd.prog 25 #[.string a, .string b] W fun e w' => e = .returned (.string TB) ∧ Below W.heap.size W w' from fun W hW => (hash_BagText.calls a b TB W (by rw [hTB]; exact hash_BagText.is a b (by omega))).mono fun e w' h => ⟨h.1, by first | exact h.2 | exact h.2.below⟩)
  have C8 := Aside0.mk (show ∀ W, Below w.heap.size w W → Calls Tryd.prog 26 #[.string a, .string b] W fun e w' => e = .returned (.string TB) ∧ Below W.heap.size W w' from fun W hW => (massifref07_BagText.calls a b TB W (by rw [hTB]; exact massifref07_BagText.is a b (by omega))).mono fun e w' h => ⟨h.1, by first | exact h.2 | exact h.2.below⟩)
  have C9 := Aside0.mk (show ∀ W, Below w.heap.size w W → Calls Tryd.prog 27 #[.int .u64 n, .string a] W fun e w' => e = .returned (.string TR) ∧ Below W.heap.size W w' from fun W hW => (hash_RootText.calls n a TR W (by rw [hTR]; exact hash_RootText.is n a (by omega))).mono fun e w' h => ⟨h.1, by first | exact h.2 | exact h.2.below⟩)
  have D1 := Aside0.mk (show ∀ W, Below w.heap.size w W → Calls Tryd.prog 28 #[.int .u64 n, .string a] W fun e w' => e = .returned (.string TR) ∧ Below W.heap.size W w' from fun W hW => (massifref07_RootText.calls 20 n a TR W (by rw [hTR]; exact massifref07_RootText.is n a (by omega) hnr 20 (by omega))).mono fun e w' h => ⟨h.1, by first | exact h.2 | exact h.2.below⟩)
  have D2 := Aside0.mk (show ∀ W, Below w.heap.size w W → Calls Tryd.prog 17 #[.int .i64 k, .string a] W fun e w' => e = .returned (.string DO) ∧ Below W.heap.size W w' from fun W hW => (hash_Of.calls k a DO W (by rw [hDO]; exact hash_Of.is k a (by omega))).mono fun e w' h => ⟨h.1, by first | exact h.2 | exact h.2.below⟩)
  have D3 := Aside0.mk (show ∀ W, Below w.heap.size w W → Calls Tryd.prog 29 #[.int .i64 k, .string a] W fun e w' => e = .returned (.string DO) ∧ Below W.heap.size W w' from fun W hW => (massifref07_Of.calls k a DO W (by rw [hDO]; exact massifref07_Of.is k a (by omega)) (HG.out.below hW)).mono fun e w' h => ⟨h.1, by first | exact h.2 | exact h.2.below⟩)
  have D4 := Aside0.mk (show ∀ W, Below w.heap.size w W → Calls Tryd.prog 30 #[.int .i64 k, .string a] W fun e w' => e = .returned (.string DL) ∧ Below W.heap.size W w' from fun W hW => (hash_Leaf.calls k a DL W (by rw [hDL]; exact hash_Leaf.is k a (by omega))).mono fun e w' h => ⟨h.1, by first | exact h.2 | exact h.2.below⟩)
  have D5 := Aside0.mk (show ∀ W, Below w.heap.size w W → Calls Tryd.prog 31 #[.int .i64 k, .string a] W fun e w' => e = .returned (.string DL) ∧ Below W.heap.size W w' from fun W hW => (massifref07_Leaf.calls k a DL W (by rw [hDL]; exact massifref07_Leaf.is k a (by omega)) (HG.out.below hW)).mono fun e w' h => ⟨h.1, by first | exact h.2 | exact h.2.below⟩)
  have D6 := Aside0.mk (show ∀ W, Below w.heap.size w W → Calls Tryd.prog 32 #[.int .i64 k, .string a, .string b] W fun e w' => e = .returned (.string DN) ∧ Below W.heap.size W w' from fun W hW => (hash_Node.calls k a b DN W (by rw [hDN]; exact hash_Node.is k a b (by omega))).mono fun e w' h => ⟨h.1, by first | exact h.2 | exact h.2.below⟩)
  have D7 := Aside0.mk (show ∀ W, Below w.heap.size w W → Calls Tryd.prog 33 #[.int .i64 k, .string a, .string b] W fun e w' => e = .returned (.string DN) ∧ Below W.heap.size W w' from fun W hW => (massifref07_Node.calls k a b DN W (by rw [hDN]; exact massifref07_Node.is k a b (by omega)) (HG.out.below hW)).mono fun e w' h => ⟨h.1, by first | exact h.2 | exact h.2.below⟩)
  have E1 := Aside0.mk (show ∀ W A' c', Kd.C Kd.string W A' l.length l → l.length ≤ c' → Below w.heap.size w W → Calls Tryd.prog 34 #[.int .i64 k, .slice A' l.length c'] W fun e w' => e = .returned (.string BG) ∧ Below W.heap.size W w' from fun W A' c' hC' hc' hW => (hash_Bagged.calls K k A' c' l BG W hC' hc' (by rw [hBG]; exact hash_Bagged.is K k l 140737488351232 (by omega) (Nat.le_refl _) hls (by omega) (by omega))).mono fun e w' h => ⟨h.1, by first | exact h.2 | exact h.2.below⟩)
  have E2 := Aside0.mk (show ∀ W A' c', Kd.C Kd.string W A' l.length l → l.length ≤ c' → Below w.heap.size w W → Calls Tryd.prog 35 #[.int .i64 k, .slice A' l.length c'] W fun e w' => e = .returned (.string BG) ∧ Below W.heap.size W w' from fun W A' c' hC' hc' hW => (massifref07_Bagged.calls K k A' c' l BG W hC' hc' (by rw [hBG]; exact massifref07_Bagged.is K k l 140737488351232 (by omega) (Nat.le_refl _) hls (by omega) (by omega)) (HG.out.below hW)).mono fun e w' h => ⟨h.1, by first | exact h.2 | exact h.2.below⟩)
  have E3 := Aside0.mk (show ∀ W A' c', Kd.C Kd.string W A' l.length l → l.length ≤ c' → Below w.heap.size w W → Calls Tryd.prog 36 #[.int .i64 k, .int .u64 n, .slice A' l.length c'] W fun e w' => e = .returned (.string RD) ∧ Below W.heap.size W w' from fun W A' c' hC' hc' hW => (hash_Root.calls K k n A' c' l RD W hC' hc' (by rw [hRD]; exact hash_Root.is K k n l 140737488351232 (by omega) (Nat.le_refl _) hls (by omega) (by omega))).mono fun e w' h => ⟨h.1, by first | exact h.2 | exact h.2.below⟩)
  have E4 := Aside0.mk (show ∀ W A' c', Kd.C Kd.string W A' l.length l → l.length ≤ c' → Below w.heap.size w W → Calls Tryd.prog 37 #[.int .i64 k, .int .u64 n, .slice A' l.length c'] W fun e w' => e = .returned (.string RD) ∧ Below W.heap.size W w' from fun W A' c' hC' hc' hW => (massifref07_Root.calls K k n A' c' l RD W hC' hc' (by rw [hRD]; exact massifref07_Root.is K k n l 140737488351232 (by omega) (Nat.le_refl _) hls (by omega) (by omega) (by omega) hnr) (HG.out.below hW)).mono fun e w' h => ⟨h.1, by first | exact h.2 | exact h.2.below⟩)
  clear hg hC hc hl hls ha hb hnr hK hr hTL hTN hTB hTR hDO hDL hDN hBG hRD
  go_enter Tryd.func6, Tryd.ntmps6
  go_wp2_with (fail)
  obtain ⟨w0, hw0⟩ : ∃ x, x = w.alloc (.cells #[.string a, .string b] 35) := ⟨_, rfl⟩
  have hc0 : w0.heap[w.heap.size]? = some (.cells #[.string a, .string b] 35 (0, 0)) := by rw [hw0]; exact blk_new _ _
  have HB0 := Aside0.mk (show Below w.heap.size w w0 from by rw [hw0]; exact below_alloc (Below.refl _ _) _)
  have HCE := Aside0.mk hc0
  rw [← hw0]
  clear hw0 hc0
  refine (massiflaw07_alive.calls 3 true w0 (massiflaw07_alive.is 3 (by omega))).mono ?_
  rintro e w1 ⟨rfl, hb1⟩
  have hb1 : Below w0.heap.size w0 w1 := by first | exact hb1 | exact hb1.below
  have hE := blk_below HCE.out hb1
  have HB1 := Aside0.mk (below_weaken HB0.out HB0.out.size hb1)
  have e0 : w1.cell? ⟨w.heap.size, 0, none⟩ = some (.string a) := by rw [blk_cell hE]; rfl
  have e1 : w1.cell? ⟨w.heap.size, 1, none⟩ = some (.string b) := by rw [blk_cell hE]; rfl
  have k0 := cell_regrown e0
  have k1' := cell_regrown e1
  clear hb1 hE
  go_wp2_with (fail)
  refine region_wq (by kernel_rfl) (by kernel_rfl) ?_
  repeat (refine WQ.step (fun KK hKK => ?_); go_simp; refine hKK _ ?_; clear hKK KK)
  refine WQ.nil ?_
  intro _ hw'
  obtain ⟨⟨dq, osq⟩, hw''⟩ := hw'
  subst hw''
  have hb2 := below_weaken HB1.out HB1.out.size (below_regrown w1 dq osq)
  obtain ⟨w2, hw2⟩ : ∃ x, x = Go.Sort.grow (redrawn w1 dq) osq := ⟨_, rfl⟩
  rw [← hw2] at hb2 ⊢
  have HB2 := Aside0.mk hb2
  clear hw2 hb2 k0 k1' e0 e1 HCE
  go_wp2_with (fail)
  refine (roomy_calls w2 A c l (Kd.C_below HC.out.1 HB2.out) HC.out.2 HL.out).mono ?_
  rintro e w3 ⟨g, cap, rfl, hR, hb3⟩
  have HB3 := Aside0.mk (below_weaken HB2.out HB2.out.size hb3)
  have HR3 := Aside0.mk hR
  clear hR hb3
  go_wp2_with (fail)
  refine (C1.out w3 HB3.out).mono ?_
  rintro e w4 ⟨rfl, hb'⟩
  have HB4 := Aside0.mk (below_weaken HB3.out HB3.out.size hb')
  have HR4 := Aside0.mk (Kd.R_below HR3.out hb')
  clear hb'
  go_wp2_with (fail)
  refine (C2.out w4 HB4.out).mono ?_
  rintro e w5 ⟨rfl, hb'⟩
  have HB5 := Aside0.mk (below_weaken HB4.out HB4.out.size hb')
  have HR5 := Aside0.mk (Kd.R_below HR4.out hb')
  clear hb'
  go_wp2_with (fail)
  refine (C3.out w5 HB5.out).mono ?_
  rintro e w6 ⟨rfl, hb'⟩
  have HB6 := Aside0.mk (below_weaken HB5.out HB5.out.size hb')
  have HR6 := Aside0.mk (Kd.R_below HR5.out hb')
  clear hb'
  go_wp2_with (fail)
  refine (C4.out w6 HB6.out).mono ?_
  rintro e w7 ⟨rfl, hb'⟩
  have HB7 := Aside0.mk (below_weaken HB6.out HB6.out.size hb')
  have HR7 := Aside0.mk (Kd.R_below HR6.out hb')
  clear hb'
  go_wp2_with (fail)
  refine (C5.out w7 HB7.out).mono ?_
  rintro e w8 ⟨rfl, hb'⟩
  have HB8 := Aside0.mk (below_weaken HB7.out HB7.out.size hb')
  have HR8 := Aside0.mk (Kd.R_below HR7.out hb')
  clear hb'
  go_wp2_with (fail)
  refine (C6.out w8 HB8.out).mono ?_
  rintro e w9 ⟨rfl, hb'⟩
  have HB9 := Aside0.mk (below_weaken HB8.out HB8.out.size hb')
  have HR9 := Aside0.mk (Kd.R_below HR8.out hb')
  clear hb'
  go_wp2_with (fail)
  refine (C7.out w9 HB9.out).mono ?_
  rintro e w10 ⟨rfl, hb'⟩
  have HB10 := Aside0.mk (below_weaken HB9.out HB9.out.size hb')
  have HR10 := Aside0.mk (Kd.R_below HR9.out hb')
  clear hb'
  go_wp2_with (fail)
  refine (C8.out w10 HB10.out).mono ?_
  rintro e w11 ⟨rfl, hb'⟩
  have HB11 := Aside0.mk (below_weaken HB10.out HB10.out.size hb')
  have HR11 := Aside0.mk (Kd.R_below HR10.out hb')
  clear hb'
  go_wp2_with (fail)
  refine (C9.out w11 HB11.out).mono ?_
  rintro e w12 ⟨rfl, hb'⟩
  have HB12 := Aside0.mk (below_weaken HB11.out HB11.out.size hb')
  have HR12 := Aside0.mk (Kd.R_below HR11.out hb')
  clear hb'
  go_wp2_with (fail)
  refine (D1.out w12 HB12.out).mono ?_
  rintro e w13 ⟨rfl, hb'⟩
  have HB13 := Aside0.mk (below_weaken HB12.out HB12.out.size hb')
  have HR13 := Aside0.mk (Kd.R_below HR12.out hb')
  clear hb'
  go_wp2_with (fail)
  refine (D2.out w13 HB13.out).mono ?_
  rintro e w14 ⟨rfl, hb'⟩
  have HB14 := Aside0.mk (below_weaken HB13.out HB13.out.size hb')
  have HR14 := Aside0.mk (Kd.R_below HR13.out hb')
  clear hb'
  go_wp2_with (fail)
  refine (D3.out w14 HB14.out).mono ?_
  rintro e w15 ⟨rfl, hb'⟩
  have HB15 := Aside0.mk (below_weaken HB14.out HB14.out.size hb')
  have HR15 := Aside0.mk (Kd.R_below HR14.out hb')
  clear hb'
  go_wp2_with (fail)
  refine (D4.out w15 HB15.out).mono ?_
  rintro e w16 ⟨rfl, hb'⟩
  have HB16 := Aside0.mk (below_weaken HB15.out HB15.out.size hb')
  have HR16 := Aside0.mk (Kd.R_below HR15.out hb')
  clear hb'
  go_wp2_with (fail)
  refine (D5.out w16 HB16.out).mono ?_
  rintro e w17 ⟨rfl, hb'⟩
  have HB17 := Aside0.mk (below_weaken HB16.out HB16.out.size hb')
  have HR17 := Aside0.mk (Kd.R_below HR16.out hb')
  clear hb'
  go_wp2_with (fail)
  refine (D6.out w17 HB17.out).mono ?_
  rintro e w18 ⟨rfl, hb'⟩
  have HB18 := Aside0.mk (below_weaken HB17.out HB17.out.size hb')
  have HR18 := Aside0.mk (Kd.R_below HR17.out hb')
  clear hb'
  go_wp2_with (fail)
  refine (D7.out w18 HB18.out).mono ?_
  rintro e w19 ⟨rfl, hb'⟩
  have HB19 := Aside0.mk (below_weaken HB18.out HB18.out.size hb')
  have HR19 := Aside0.mk (Kd.R_below HR18.out hb')
  clear hb'
  have HL19 := Aside0.mk (lent_C HR19.out)
  go_wp2_with (fail)
  refine (E1.out w19 _ _ HL19.out.1 HL19.out.2 HB19.out).mono ?_
  rintro e w20 ⟨rfl, hb'⟩
  have HB20 := Aside0.mk (below_weaken HB19.out HB19.out.size hb')
  have HR20 := Aside0.mk (Kd.R_below HR19.out hb')
  clear hb'
  go_wp2_with (fail)
  refine (E2.out w20 _ _ (Kd.C_below HC.out.1 HB20.out) HC.out.2 HB20.out).mono ?_
  rintro e w21 ⟨rfl, hb'⟩
  have HB21 := Aside0.mk (below_weaken HB20.out HB20.out.size hb')
  have HR21 := Aside0.mk (Kd.R_below HR20.out hb')
  clear hb'
  have HL21 := Aside0.mk (lent_C HR21.out)
  go_wp2_with (fail)
  refine (E3.out w21 _ _ HL21.out.1 HL21.out.2 HB21.out).mono ?_
  rintro e w22 ⟨rfl, hb'⟩
  have HB22 := Aside0.mk (below_weaken HB21.out HB21.out.size hb')
  have HR22 := Aside0.mk (Kd.R_below HR21.out hb')
  clear hb'
  go_wp2_with (fail)
  refine (E4.out w22 _ _ (Kd.C_below HC.out.1 HB22.out) HC.out.2 HB22.out).mono ?_
  rintro e w23 ⟨rfl, hb'⟩
  have HB23 := Aside0.mk (below_weaken HB22.out HB22.out.size hb')
  have HR23 := Aside0.mk (Kd.R_below HR22.out hb')
  clear hb'
  go_wp2_with (fail)
  refine (whole_calls w23 g cap A c l _ HR23.out (Kd.C_below HC.out.1 HB23.out) HC.out.2 HL.out).mono ?_
  rintro e w24 ⟨rfl, hb'⟩
  have HBF := Aside0.mk (below_weaken HB23.out HB23.out.size hb')
  clear hb'
  go_wp2_with (fail)
  go_ret
  exact ⟨rfl, HBF.out⟩
end Go.Proofs.YtcghicmdphfodaaDoor.Ha
