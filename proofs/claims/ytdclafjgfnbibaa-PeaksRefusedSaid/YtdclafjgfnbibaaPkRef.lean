/- The walk of massiflaw09.PeaksRefused: it answers true, and what was there stays. -/
import Derived.Test.YtdclafjgfnbibaaPkOn
import Derived.BigQuiet
import Derived.Deep.QuietTactic
import Derived.Deep.RegionHeld3
import Derived.Outline
import Derived.Test.YtdclafjgfnbibaaWs
set_option linter.unusedVariables false
set_option linter.unusedSimpArgs false
namespace Go.Proofs.Ytdclafjgfnbibaa.Pk
open Go.RowKit Go.Proofs.Ytdclafjgfnbibaa.MB Go.Proofs.YtdclafjgfnbibaaW.PrintWords Go.Proofs.YtdclafjgfnbibaaW.PrintLast Go.Proofs.YtdclafjgfnbibaaW.PrintMore Go.Proofs.Ytdclafjgfnbibaa.PPeaksRefused Go.Proofs.Ytdclafjgfnbibaa.Ob Go.Proofs.Ytdclafjgfnbibaa.Ws
attribute [local go_sem] Go.Proofs.Ytdclafjgfnbibaa.Ws.yq Go.Proofs.Ytdclafjgfnbibaa.Ws.yAt
theorem WS_w {P : Program} {ops : Array Oper} {Q : Exit → Act → World → Prop} {S : World → Prop} {i : Nat} {σ : List (Nat × Bool)} {oi : Oper} {a : Act} {w : World} (hi : ops[i]? = some oi) (hS : S w) (hw : Region.wanted oi (yielded ops a.tmps) = true)
    (h : ∀ K : Act → Prop, (∀ a, WS P ops Q S σ a w → K a) → yq P oi a K) : WS P ops Q S ((i, false) :: σ) a w :=
  WS.y hi hS (fun K hK => by rw [if_pos hw]; exact h K hK)
theorem WS_c {P : Program} {ops : Array Oper} {Q : Exit → Act → World → Prop} {S : World → Prop} {i : Nat} {σ : List (Nat × Bool)} {oi : Oper} {a : Act} {w : World} (hi : ops[i]? = some oi) (hw : Region.wanted oi (yielded ops a.tmps) = true)
    (h : ∀ K' : Act → World → Prop, Shut (∀ a w, S w → WS P ops Q S σ a w → K' a w) → Oper.wp P oi a w K' Q) : WS P ops Q S ((i, true) :: σ) a w :=
  WS.c hi (fun K hK => by rw [if_pos hw]; exact h K hK)
theorem and_pred : ∀ (d i : Nat), i < 2 ^ d → 0 < i → d ≤ 64 → onesF d (i &&& (i - 1)) + 1 = onesF d i ∧ (i &&& (i - 1)) < i
  | 0, i, h, h0, _ => by omega
  | d + 1, i, h, h0, hd => by
    have h1 : (i &&& (i - 1)) / 2 = (i / 2) &&& ((i - 1) / 2) := Nat.and_div_two
    have h2 : (i &&& (i - 1)) % 2 = 1 ↔ (i % 2 = 1 ∧ (i - 1) % 2 = 1) := Nat.and_mod_two_eq_one
    have hb : ∀ m, onesF (d + 1) m = m % 2 + onesF d (m / 2) := fun m => rfl
    rcases Nat.mod_two_eq_zero_or_one i with e | e
    · have e1 : (i - 1) / 2 = i / 2 - 1 := by omega
      have e2 : (i &&& (i - 1)) % 2 = 0 := by omega
      have ih := and_pred d (i / 2) (by omega) (by omega) (by omega)
      rw [hb, hb, h1, e1, e2, e]
      rw [e1] at h1
      exact ⟨by omega, by omega⟩
    · have e1 : (i - 1) / 2 = i / 2 := by omega
      have e2 : (i &&& (i - 1)) % 2 = 0 := by omega
      rw [e1, Nat.and_self] at h1
      rw [hb, hb, h1, e2, e]
      exact ⟨by omega, by omega⟩
theorem and_ones (i : Nat) (h : i < 2 ^ 64) (h0 : 0 < i) : MB.ones (i &&& (i - 1)) + 1 = MB.ones i ∧ (i &&& (i - 1)) < i := and_pred 64 i h h0 (Nat.le_refl _)
theorem nl_nz (o : Op) {K : Int} {n : Nat} {L : List ByteArray} {x : Int} (h : Op.E o K n = x) (hx : x ≠ 0 := by omega) : Op.N o K n = n ∧ Op.L o K n L = L ∧ Op.M o K n L = [] := by
  unfold Op.E at h
  unfold Op.N Op.L Op.M opN opL opM
  refine ⟨by rw [h, if_neg hx], by rw [h, if_neg hx], ?_⟩
  split
  · rfl
  · rename_i hk
    have eh : o.height = 0 := by unfold Op.height; rw [if_neg hk]
    rw [eh] at h
    rw [h, if_neg hx]
theorem nl_z (o : Op) {K : Int} {n : Nat} {L : List ByteArray} {g : Nat} (h : Op.E o K n = 0) (hg : o.height = (g : Int)) : Op.N o K n = n + 2 ^ g ∧ Op.L o K n L = Op.L o K n L ∧ Op.M o K n L = Op.M o K n L := by
  unfold Op.E at h
  refine ⟨?_, rfl, rfl⟩
  unfold Op.N opN
  rw [h, if_pos rfl, hg, Int.toNat_natCast]
theorem tests_u64 (n g : Nat) (hn : n ≤ 2 ^ 40) (hg : g ≤ 40) : (IntKind.u64.wrap ((2 : Int) ^ g) = 0) = False ∧
    ((¬ n % 2 ^ g = 0 → ((n : Int) % IntKind.u64.wrap (2 ^ g) != 0) = true) ∧ (n % 2 ^ g = 0 → ((n : Int) % IntKind.u64.wrap (2 ^ g) != 0) = false)) ∧
    ((2 ^ 40 < n + 2 ^ g → decide (1099511627776 < IntKind.u64.wrap ((n : Int) + IntKind.u64.wrap (2 ^ g))) = true) ∧ (¬ 2 ^ 40 < n + 2 ^ g → decide (1099511627776 < IntKind.u64.wrap ((n : Int) + IntKind.u64.wrap (2 ^ g))) = false ∧ (((n + 2 ^ g : Nat) : Int) != IntKind.u64.wrap ((n : Int) + IntKind.u64.wrap (2 ^ g))) = false ∧ (((n : Int) + 2 ^ g) != IntKind.u64.wrap ((n : Int) + IntKind.u64.wrap (2 ^ g))) = false)) := by
  obtain ⟨h1, h2⟩ := pow_cast g hg
  have h3 := wrap_sum n g hn hg
  have hp : 0 < 2 ^ g := Nat.pow_pos (by omega)
  rw [h3, h1]
  refine ⟨eq_false (by omega), ⟨fun h => ?_, fun h => ?_⟩, fun h => decide_eq_true (by omega), fun h => ⟨decide_eq_false (by omega), by simp, by simp⟩⟩
  · rw [← Int.natCast_emod]; simpa using (by omega : ((n % 2 ^ g : Nat) : Int) ≠ 0)
  · rw [← Int.natCast_emod, h]; rfl
theorem sums_u64 (n g : Nat) (hn : n ≤ 2 ^ 40) (hg : g ≤ 40) : IntKind.u64.wrap (g : Int) = (g : Int) ∧ IntKind.u64.wrap ((2 : Int) ^ g) = (2 : Int) ^ g ∧ IntKind.u64.wrap ((n : Int) + 2 ^ g) = (n : Int) + 2 ^ g := by
  obtain ⟨h1, h2⟩ := pow_cast g hg
  have e : ((2 : Int) ^ g) = ((2 ^ g : Nat) : Int) := by push_cast; rfl
  refine ⟨MB.wrap_u64_cast g (by omega), by rw [h1, e], ?_⟩
  rw [e, ← Int.natCast_add, MB.wrap_u64_cast _ (by omega)]
theorem gate_store {P : Program} {ops : Array Oper} {rest : List Oper} {o : Oper} {a : Act} {W : World} {Q : Exit → Act → World → Prop} {t : TypeId} {x v : Operand} (_ho : o.op = .store t x v) (h : wpList P ops Q (o :: rest) a W) : wpList P ops Q (o :: rest) a W := h
theorem one5 (q y h : Int) (s : ByteArray) (r : Bool) : ∀ v ∈ (#[Value.int .i64 q, .int .i64 y, .int .i64 h, .string s, .bool r] : Array Value).toList, v.oneCell' = true := by
  intro v hv; simp at hv; rcases hv with rfl | rfl | rfl | rfl | rfl <;> rfl
theorem one2 (n : Int) (s : ByteArray) : ∀ v ∈ (#[Value.int .u64 n, .string s] : Array Value).toList, v.oneCell' = true := by
  intro v hv; simp at hv; rcases hv with rfl | rfl <;> rfl
set_option maxHeartbeats 200000000 in
set_option maxRecDepth 100000 in
theorem refused_calls (w : World) (k : Int) (n0 : Nat) (A2 : Option Addr) (c2 : Nat) (l2 : List Op) (hn0 : n0 < 2 ^ 64) (h2 : Ops w A2 l2) :
    Calls Try.prog 5 #[.int .i64 k, .int .u64 n0, .slice A2 l2.length c2] w fun e w' => e = .returned (.bool true) ∧ Below w.heap.size w w' := by
  obtain ⟨K, hK, hK1, hK2⟩ := strength_is k
  have HO2 := Aside0.mk h2
  have HKS := Aside0.mk hK
  have HKI := Aside0.mk (And.intro hK1 hK2)
  have HLL := Aside0.mk h2.1
  have HN0 := Aside0.mk hn0
  have hn0' : (n0 : Int) ≤ 18446744073709551615 := by omega
  clear h2 hK hK1 hK2 hn0
  go_enter Try.func5, Try.ntmps5
  go_wp2_with (fail)
  refine (alive_calls w).mono ?_
  rintro e w1 ⟨rfl, hb1⟩
  have HB1 := Aside0.mk hb1
  clear hb1
  go_wp2_with (fail)
  refine (massiflaw09_strength.calls k K w1 HKS.out).mono ?_
  rintro e w2 ⟨rfl, hd⟩
  have HB2 := Aside0.mk (below_weaken HB1.out HB1.out.size hd.below)
  clear hd
  go_wp2_with (fail)
  obtain ⟨n, hn⟩ : ∃ n : Nat, (n : Int) = (n0 : Int) % 1099511627777 := ⟨n0 % 1099511627777, by omega⟩
  have HN := Aside0.mk (show n ≤ 2 ^ 40 from by omega)
  rw [← hn]
  clear hn hn0'
  obtain ⟨P, hP⟩ : ∃ P, P = dgt ⟨#[112]⟩ K.toNat := ⟨_, rfl⟩
  have HD := Aside0.mk (fun (W : World) => show Calls Try.prog 8 #[.string ⟨#[112]⟩, .int .i64 K] W fun e w' => e = .returned (.string P) ∧ Below W.heap.size W w' from by rw [hP]; exact digest_calls W ⟨#[112]⟩ K HKI.out.1 HKI.out.2)
  have HPS := Aside0.mk (show (P.size : Int) = K from by rw [hP, dgt_size]; have := HKI.out; omega)
  clear hP
  go_loopg [7, 8] (MB.ones n) (fun kq v7 v8 w' => ∃ (i c : Nat) (x : Int), v8 = .int .u64 x ∧ Aside0 (x = (i : Int)) ∧ Aside0 (kq = MB.ones i) ∧ Aside0 (c + MB.ones i = MB.ones n) ∧ Aside0 (i ≤ 2 ^ 40) ∧ Aside0 (Kd.string.R 9 w' w.heap.size (fun j => w.heap.size ≤ j) v7 (List.replicate c P)) ∧ Aside0 (Below w.heap.size w w'))
  case atStart => exact ⟨n, 0, (n : Int), rfl, ⟨rfl⟩, ⟨rfl⟩, ⟨by omega⟩, HN, ⟨Kd.R_nil _ _ _ _ _⟩, HB2⟩
  case round =>
    obtain ⟨i, c, x, rfl, HX, HG, HC, HI, HR, HB⟩ := hrel
    have x0 : 0 ≤ x := by rw [HX.out]; omega
    have x1 : x ≤ 1099511627776 := by rw [HX.out]; have := HI.out; omega
    by_cases hi : 0 < i
    · have t0 : decide (0 < x) = true := decide_eq_true (by rw [HX.out]; omega)
      have hx0 : 1 ≤ x := by rw [HX.out]; omega
      have HAO := Aside0.mk (and_ones i (by have := HI.out; omega) hi)
      obtain ⟨k1, rfl⟩ : ∃ k1, gk = k1 + 1 := ⟨gk - 1, by have := HAO.out; have := HG.out; omega⟩
      have HIP := Aside0.mk hi
      clear hi
      go_wp2_with (fail)
      refine (HD.out wr).mono ?_
      rintro e w4 ⟨rfl, hb4⟩
      have HB4 := Aside0.mk (below_weaken HB.out HB.out.size hb4)
      have HR4 := Aside0.mk (Kd.R_below HR.out hb4)
      clear hb4
      go_wp2_with (first | ((with_reducible refine gate_builtin (b := .append) (xs := #[.tmp 34, .tmp 37]) rfl ?_); at_builtin; refine Kd.R_append Kd.string (w0 := w) w.heap.size rfl (.tmp 34) (.tmp 37) 25 9 (.string ⟨#[]⟩) 16 rfl Try.underlying25 info9 rfl (by decide) (by omega) _ (List.replicate c P) P [.string P] (fun j => w.heap.size ≤ j) (fun _ => False) rfl rfl ?aP (fun _ hk => hk.elim) ?aF ?aO ?aB ?aS ?aL ?_; (case aP => exact rfl); (case aF => exact (fun j hj => Nat.le_trans HB4.out.size hj)); (case aO => exact HR4.out); (case aB => exact HB4.out); (case aS => exact HB4.out.size); (case aL => rw [List.length_replicate]; have := HC.out; have := MB.ones_le n; omega); intro v5 w5 ho hb5 hg hat; rw [show List.replicate c P ++ [P] = List.replicate (c + 1) P from List.replicate_succ'.symm] at ho; have HR5 := Aside0.mk ho; have HB5 := Aside0.mk hb5; clear ho hb5 hg hat))
      go_roundg k1
      case measure => exact Nat.lt_succ_self _
      case rel =>
        have hx := HX.out
        have hip := HIP.out
        have hii := HI.out
        have hao := HAO.out
        refine ⟨i &&& (i - 1), c + 1, _, rfl, ⟨?_⟩, ⟨by have := HG.out; omega⟩, ⟨by have := HC.out; omega⟩, ⟨by omega⟩, HR5, HB5⟩
        rw [hx, show (i : Int) - 1 = ((i - 1 : Nat) : Int) from by omega, bits_and_u64_nat i (i - 1) (by omega) (by omega)]
    · have t0 : decide (0 < x) = false := decide_eq_false (by rw [HX.out]; omega)
      have HCN := Aside0.mk (show c = MB.ones n from by
        have e : i = 0 := by omega
        have := HC.out
        rw [e, MB.ones_zero] at this; omega)
      obtain ⟨A4, c4, e4, hcc4, hC4⟩ := Kd.R_reads HR.out
      subst e4
      obtain ⟨L0, hL0⟩ : ∃ L0, L0 = List.replicate c P := ⟨_, rfl⟩
      rw [← hL0] at hC4
      rw [← hL0]
      have HV := Aside0.mk (show Inv K n L0 from ⟨HKI.out.1, HKI.out.2, HN.out, by rw [hL0, List.length_replicate, HCN.out], fun s hs => by rw [hL0] at hs; rw [List.eq_of_mem_replicate hs]; exact HPS.out⟩)
      have HC4 := Aside0.mk hC4
      clear hL0 hC4 hcc4 hi
      go_wp2_with (fail)
      refine (from_ok wr K n A4 c4 L0 HV.out HC4.out).mono ?_
      rintro e w6 ⟨ha, rfl, hle, hr6, hb6⟩
      have HR6 := Aside0.mk (hr6.mono (fun j hj => Nat.le_trans HB.out.size hj))
      have HB6 := Aside0.mk (below_weaken HB.out HB.out.size hb6)
      clear hr6 hle hb6
      go_wp2_with (fail)
      go_loopg [11] l2.length (fun kq v11 w' => ∃ (i n : Nat) (L : List ByteArray) (ok : Nat → Prop), v11 = .int .i64 (i : Int) ∧ Aside0 (i + kq = l2.length) ∧ Aside0 (Rg w' ha ok K n L) ∧ Aside0 (Inv K n L) ∧ Aside0 (∀ j, ok j → w.heap.size ≤ j) ∧ Aside0 (Below w.heap.size w w'))
      case atStart => exact ⟨0, n, L0, _, by rfl, ⟨by omega⟩, HR6, HV, ⟨fun _ h => h⟩, HB6⟩
      case round =>
        clear HR HR6 HV HB HB6 HC4 HC HG HI HX HCN HN
        obtain ⟨x, n, L, ok, rfl, HI, HR, HV, HOK, HB⟩ := hrel
        by_cases hgo : x < l2.length ∧ x < 60
        · obtain ⟨hxl, h100⟩ := hgo
          obtain ⟨k1, rfl⟩ : ∃ k1, gk = k1 + 1 := ⟨gk - 1, by have := HI.out; omega⟩
          have hmt : decide ((x : Int) < (l2.length : Int)) = true := decide_eq_true (by omega)
          have hmt' : decide (x < l2.length) = true := decide_eq_true hxl
          have hmu : decide ((x : Int) < 60) = true := decide_eq_true (by omega)
          have hmu' : decide (x < 60) = true := decide_eq_true h100
          obtain ⟨ad, e1, hx⟩ := HO2.out.2 (by omega)
          cases e1
          obtain ⟨o, ho⟩ : ∃ o, l2[x]? = some o := ⟨l2[x], List.getElem?_eq_getElem hxl⟩
          have HX := Aside0.mk (fun (j : Nat) (v : Value) (hj : o.cells[j]? = some v) => show wr.cell? ((ad.add (x * 5)).add j) = some v from by
            rw [add_two]; have h := hx x o ho j v hj; exact (HB.out.cell (World.block_lt_of_cell? _ _ h)).trans h)
          clear hx ho
          obtain ⟨q, yw, h, s, r⟩ := o
          have HR0 := Aside0.mk HR.out.bound
          have HW0 := Aside0.mk (below_alloc (Below.refl _ wr) (.cells #[.int .i64 q, .int .i64 yw, .int .i64 h, .string s, .bool r] 46))
          have HK0 := Aside0.mk (blk_new wr (.cells #[.int .i64 q, .int .i64 yw, .int .i64 h, .string s, .bool r] 46))
          go_wp2_with (first | ((with_reducible refine gate_dst (N := 65) rfl ?_); refine wpList_load_at rfl 46 (.tmp 64) rfl (ad.add (x * 5)) rfl #[.int .i64 q, .int .i64 yw, .int .i64 h, .string s, .bool r] _ HX.out Try.underlying46 rfl (by kernel_rfl) ?_) | ((with_reducible refine gate_store (t := 46) (x := .tmp 12) (v := .tmp 65) rfl ?_); refine Sha.wpList_store_row' rfl 46 (.tmp 12) (.tmp 65) rfl wr.heap.size rfl #[.int .i64 q, .int .i64 yw, .int .i64 h, .string s, .bool r] rfl _ 46 (blk_new _ _) rfl (by kernel_rfl) (one5 q yw h s r) ?_; intro w5 hw5; rw [Sha.setRow_new _ _ _ _ _ rfl] at hw5; rw [← hw5] at HW0 HK0; clear hw5))
          have HB5 := Aside0.mk (below_weaken HB.out HB.out.size HW0.out)
          have HR5 := Aside0.mk (HR0.out.below HW0.out)
          obtain ⟨b12, hb12⟩ : ∃ b, b = wr.heap.size := ⟨_, rfl⟩
          rw [← hb12] at HK0
          rw [← hb12]
          have HZ := Aside0.mk hb12
          clear hb12
          refine (peaks_calls w5 ha _ K n L HR5.out (by have := HV.out.len; have := MB.ones_le n; omega)).mono ?_
          rintro e w6 ⟨v6, rfl, hr6, hb6⟩
          have HL6 := Aside0.mk (Ls.mk (ok := fun j => ok j ∧ j < wr.heap.size) hr6 (fun j hj h2 => by have := Kd.R_base hr6 j hj; have := HW0.out.size; omega))
          obtain ⟨A6, N6, c6, e6, hN6, hc6⟩ := HL6.out.slice
          subst e6
          subst hN6
          have HR6 := Aside0.mk (HR5.out.below hb6)
          have HK6 := Aside0.mk (blk_below HK0.out hb6)
          have HB6 := Aside0.mk (below_weaken HB5.out HB5.out.size hb6)
          have HS6 := Aside0.mk (show w5.heap.size ≤ w6.heap.size from hb6.size)
          clear hr6 hb6 hc6
          have hrt := rootIs HV.out
          obtain ⟨D, hD⟩ : ∃ D, D = MH.rootD K n L := ⟨_, rfl⟩
          rw [← hD] at hrt
          have HRT := Aside0.mk hrt
          clear hrt hD
          go_wp2_with (fail)
          refine (root_calls 100 w6 ha _ K n L D HR6.out HRT.out).mono ?_
          rintro e w7 ⟨rfl, hb7⟩
          have HR7 := Aside0.mk (HR6.out.below hb7)
          have HL7 := Aside0.mk (HL6.out.below hb7)
          have HK7 := Aside0.mk (blk_below HK6.out hb7)
          have HB7 := Aside0.mk (below_weaken HB6.out HB6.out.size hb7)
          have HS7 := Aside0.mk (show w5.heap.size ≤ w7.heap.size from Nat.le_trans HS6.out hb7.size)
          clear hb7
          go_wp2_with (fail)
          refine (size_calls w7 ha _ K n L HR7.out).mono ?_
          rintro e w8 ⟨rfl, hb8⟩
          have HR8 := Aside0.mk (HR7.out.below hb8)
          have HL8 := Aside0.mk (HL7.out.below hb8)
          have HK8 := Aside0.mk (blk_below HK7.out hb8)
          have HB8 := Aside0.mk (below_weaken HB7.out HB7.out.size hb8)
          have HS8 := Aside0.mk (show w5.heap.size ≤ w8.heap.size from Nat.le_trans HS7.out hb8.size)
          clear hb8
          have HW9 := Aside0.mk (below_alloc (Below.refl _ w8) (.cells #[.int .u64 n, .string D] 39))
          have HM9 := Aside0.mk (blk_new w8 (.cells #[.int .u64 n, .string D] 39))
          obtain ⟨b14, hb14⟩ : ∃ b, b = w8.heap.size := ⟨_, rfl⟩
          have HZ14 := Aside0.mk hb14
          clear hb14
          have HLN := Aside0.mk (show L.length ≤ 1000000 from by have := HV.out.len; have := MB.ones_le n; omega)
          have HLN2 := Aside0.mk (show L.length < 1000 from by have := HV.out.len; have := MB.ones_le n; omega)
          have hn40 : (n : Int) ≤ 1099511627776 := by have := HV.out.n1; omega
          have HCK := Aside0.mk (fun (W : World) (hW : Below w8.heap.size w8 W) => show W.cell? ⟨b12, 0, none⟩ = some (.int .i64 q) ∧ W.cell? ⟨b12, 1, none⟩ = some (.int .i64 yw) ∧ W.cell? ⟨b12, 2, none⟩ = some (.int .i64 h) ∧ W.cell? ⟨b12, 3, none⟩ = some (.string s) ∧ W.cell? ⟨b12, 4, none⟩ = some (.bool r) from by
            have hk := blk_below HK8.out hW
            refine ⟨?_, ?_, ?_, ?_, ?_⟩ <;> simp [World.cell?, hk])
          have HZ8a := Aside0.mk (show wr.heap.size ≤ w8.heap.size from by have h1 := HW0.out.size; have h2 := HS8.out; omega)
          by_cases hq : Int.tmod q 2 = 0
          · have tq : (Int.tmod q 2 == 0) = true := by simp [hq]
            cases r
            · have htext : Op.text (Op.mk q yw h s false) K = s := by unfold Op.text; simp
              have hheight : Op.height (Op.mk q yw h s false) = h := by unfold Op.height; simp [hq]
              by_cases hsz : ((s).size : Int) = K
              rotate_left
              · have q1 : (((s).size : Int) != K) = true := by simpa using hsz
                have hE : opE K n h s = 90 := by unfold opE; rw [if_pos hsz]
                clear hsz
                as_aux_lemma =>
                  have HE := Aside0.mk (show Op.E (Op.mk q yw h s false) K n = 90 from by unfold Op.E; rw [htext, hheight]; exact hE)
                  have HNL := Aside0.mk (nl_nz (Op.mk q yw h s false) (L := L) HE.out)
                  have DC := Aside0.mk (fun {W : World} (hW : Rg W ha (fun j => ok j ∧ j < wr.heap.size) K n L) => show Calls Try.prog 16 #[.pointer (some ⟨ha, 0, none⟩), .agg #[.int .i64 q, .int .i64 yw, .int .i64 h, .string s, .bool false], .int .i64 K] W (Does W ha (fun j => ok j ∧ j < wr.heap.size) K n L (Op.mk q yw h s false)) from does_calls W ha _ K n L (Op.mk q yw h s false) hW HV.out)
                  clear hE htext hheight
                  have HZ8 := Aside0.mk (show wr.heap.size ≤ w8.heap.size from ?hz8)
                  case hz8 => exact HZ8a.out
                  go_wp2_with (first | ((with_reducible refine gate_store (t := 39) (x := .tmp 14) (v := .tmp 69) rfl ?_); refine Sha.wpList_store_row' rfl 39 (.tmp 14) (.tmp 69) rfl w8.heap.size rfl #[.int .u64 n, .string D] rfl _ 39 (blk_new _ _) rfl (by kernel_rfl) (one2 n D) ?_; intro w9 hw9; rw [Sha.setRow_new _ _ _ _ _ rfl] at hw9; rw [← hw9] at HW9 HM9; clear hw9; obtain ⟨c0, c1, c2, c3, c4⟩ := HCK.out w9 HW9.out))
                  have HRX := Aside0.mk (HR8.out.below HW9.out)
                  have HLX := Aside0.mk (HL8.out.below HW9.out)
                  have HMX := Aside0.mk (show w9.heap[b14]? = some (.cells #[.int .u64 n, .string D] 39 (0, 0)) from by rw [HZ14.out]; exact HM9.out)
                  have HBX := Aside0.mk (below_weaken HB8.out HB8.out.size HW9.out)
                  refine (DC.out HRX.out).mono ?_
                  intro e w11 hD
                  obtain ⟨A11, N11, c11, rfl, hbs, hl, hr, hk⟩ := hD.told
                  rw [HE.out]
                  obtain ⟨eN, eL, eM⟩ := HNL.out
                  rw [eM] at hl
                  rw [eN, eL] at hr
                  have hm14 : w11.heap[b14]? = some (.cells #[.int .u64 n, .string D] 39 (0, 0)) := (hk.keep b14 (blkLt HMX.out) (fun h2 => by have := HZ14.out; have := HZ8.out; have := h2.2; omega)).trans HMX.out
                  have HB11 := Aside0.mk (Kp.old HBX.out HBX.out.size hk (fun j h => HOK.out j h.1))
                  have HR11 := Aside0.mk hr
                  have HL11 := Aside0.mk (HLX.out.next (u := .slice A11 N11 c11) hk)
                  have HOK11 := Aside0.mk (show ∀ j, nx w9 (fun j => ok j ∧ j < wr.heap.size) (.slice A11 N11 c11) j → w.heap.size ≤ j from fun j h => by have := HBX.out.size; rcases h with h | h; exact HOK.out j h.1.1; omega)
                  have e0 : w11.cell? ⟨b14, 0, none⟩ = some (.int .u64 n) := by simp [World.cell?, hm14]
                  have e1 : w11.cell? ⟨b14, 1, none⟩ = some (.string D) := by simp [World.cell?, hm14]
                  obtain ⟨hN11, _, _⟩ := hl.C
                  have hN11' : N11 = 0 := hN11
                  subst hN11'
                  clear hN11
                  clear hl hk hr hD hbs hm14 eN eL eM
                  have HRD := Aside0.mk (show Rg w11.drew ha (nx w9 (fun j => ok j ∧ j < wr.heap.size) (.slice A11 0 c11)) K (n : Int) L from HR11.out.step (fun _ _ _ => rfl))
                  have HBD := Aside0.mk (below_drew HB11.out)
                  have HLD := Aside0.mk (HL11.out.below (below_drew (Below.refl _ w11)))
                  go_wp2_with (fail)
                  rw [← HZ14.out]
                  have hs0 : (fun w' => w'.cell? ⟨b14, 0, none⟩ = some (.int .u64 n) ∧ w'.cell? ⟨b14, 1, none⟩ = some (.string D)) w11.drew := ⟨e0, e1⟩
                  refine region_ws ((0, false) :: (1, false) :: (2, false) :: (3, false) :: (4, false) :: (5, false) :: (6, false) :: (7, false) :: (9, false) :: (8, true) :: (10, false) :: (11, false) :: (12, false) :: (13, false) :: (15, false) :: (14, true) :: (16, false) :: (17, false) :: (18, false) :: (19, false) :: (21, false) :: (20, true) :: (22, true) :: (23, false) :: (24, false) :: (25, false) :: (26, false) :: (27, false) :: (28, false) :: (29, false) :: (30, false) :: (32, false) :: (33, false) :: (34, false) :: (35, false) :: (36, false) :: (31, false) :: (37, false) :: (38, false) :: (39, false) :: []) (fun w' => w'.cell? ⟨b14, 0, none⟩ = some (.int .u64 n) ∧ w'.cell? ⟨b14, 1, none⟩ = some (.string D)) (by kernel_rfl) (by kernel_rfl) (fun _ d _ _ _ h => by cases d <;> exact h) ?_
                  repeat (first | (refine WS_w rfl hs0 (by rfl) (fun KK hKK => ?_); go_simp; refine hKK _ ?_; clear hKK KK) | (refine WS.s rfl hs0 (by rfl) (fun KK hKK => ?_); go_simp; refine hKK _ ?_; clear hKK KK))
                  refine WS_c rfl (by rfl) (fun KK hKK => ?_)
                  go_simp
                  refine (size_calls _ ha _ K _ _ HRD.out).mono ?_
                  rintro e w12 ⟨rfl, hq12⟩
                  have f0 : w12.cell? ⟨b14, 0, none⟩ = some (.int .u64 n) := (hq12.cell (World.block_lt_of_cell? _ _ e0)).trans e0
                  have f1 : w12.cell? ⟨b14, 1, none⟩ = some (.string D) := (hq12.cell (World.block_lt_of_cell? _ _ e1)).trans e1
                  have HR12 := Aside0.mk (HRD.out.below hq12)
                  have HL12 := Aside0.mk (HLD.out.below hq12)
                  have HB12 := Aside0.mk (below_weaken HBD.out HBD.out.size hq12)
                  clear hq12
                  try go_wp2_with (fail)
                  refine hKK.out _ _ ⟨f0, f1⟩ ?_
                  clear hKK KK
                  have hs1 : (fun w' => w'.cell? ⟨b14, 0, none⟩ = some (.int .u64 n) ∧ w'.cell? ⟨b14, 1, none⟩ = some (.string D)) w12 := ⟨f0, f1⟩
                  repeat (first | (refine WS_w rfl hs1 (by rfl) (fun KK hKK => ?_); go_simp; refine hKK _ ?_; clear hKK KK) | (refine WS.s rfl hs1 (by rfl) (fun KK hKK => ?_); go_simp; refine hKK _ ?_; clear hKK KK))
                  refine WS.l (.agg #[.int .u64 n, .string D]) rfl hs1 (by rfl) (fun w0 hSw => ?_) (fun KK hKK => ?_)
                  · (obtain ⟨o0, o1⟩ := hSw; clear e0 e1 f0 f1 hs0 hs1; go_simp; try rfl)
                  go_simp
                  refine hKK _ ?_
                  clear hKK KK
                  refine WS_c rfl (by rfl) (fun KK hKK => ?_)
                  go_simp
                  refine (root_calls 100 _ ha _ K n L D HR12.out HRT.out).mono ?_
                  rintro e w13 ⟨rfl, hq13⟩
                  have g0 : w13.cell? ⟨b14, 0, none⟩ = some (.int .u64 n) := (hq13.cell (World.block_lt_of_cell? _ _ f0)).trans f0
                  have g1 : w13.cell? ⟨b14, 1, none⟩ = some (.string D) := (hq13.cell (World.block_lt_of_cell? _ _ f1)).trans f1
                  have HR13 := Aside0.mk (HR12.out.below hq13)
                  have HL13 := Aside0.mk (HL12.out.below hq13)
                  have HB13 := Aside0.mk (below_weaken HB12.out HB12.out.size hq13)
                  clear hq13
                  try go_wp2_with (fail)
                  refine hKK.out _ _ ⟨g0, g1⟩ ?_
                  clear hKK KK
                  have hs2 : (fun w' => w'.cell? ⟨b14, 0, none⟩ = some (.int .u64 n) ∧ w'.cell? ⟨b14, 1, none⟩ = some (.string D)) w13 := ⟨g0, g1⟩
                  repeat (first | (refine WS_w rfl hs2 (by rfl) (fun KK hKK => ?_); go_simp; refine hKK _ ?_; clear hKK KK) | (refine WS.s rfl hs2 (by rfl) (fun KK hKK => ?_); go_simp; refine hKK _ ?_; clear hKK KK))
                  refine WS_c rfl (by rfl) (fun KK hKK => ?_)
                  go_simp
                  refine (peaks_calls _ ha _ K n L HR13.out HLN.out).mono ?_
                  rintro e w14 ⟨v14, rfl, hr14, hq14⟩
                  obtain ⟨A14, c14, e14, hcc14, hC14⟩ := Kd.R_reads hr14
                  subst e14
                  have i0 : w14.cell? ⟨b14, 0, none⟩ = some (.int .u64 n) := (hq14.cell (World.block_lt_of_cell? _ _ g0)).trans g0
                  have i1 : w14.cell? ⟨b14, 1, none⟩ = some (.string D) := (hq14.cell (World.block_lt_of_cell? _ _ g1)).trans g1
                  have HR14 := Aside0.mk (HR13.out.below hq14)
                  have HL14 := Aside0.mk (HL13.out.below hq14).C
                  have HC14 := Aside0.mk (And.intro hcc14 hC14)
                  have HB14 := Aside0.mk (below_weaken HB13.out HB13.out.size hq14)
                  clear hr14 hcc14 hC14 hq14
                  try go_wp2_with (fail)
                  refine hKK.out _ _ ⟨i0, i1⟩ ?_
                  clear hKK KK
                  refine WS_c rfl (by rfl) (fun KK hKK => ?_)
                  go_simp
                  refine (massiflaw09_same.calls 1000 A14 c14 L A6 c6 L true _ HC14.out.2 HC14.out.1 HL14.out.2.2 HL14.out.2.1 (massiflaw09_same.is 1000 L (Nat.le_trans HLN.out (by decide)) HLN2.out)).mono ?_
                  rintro e w15 ⟨rfl, hd15⟩
                  have j0 : w15.cell? ⟨b14, 0, none⟩ = some (.int .u64 n) := (hd15.below.cell (World.block_lt_of_cell? _ _ i0)).trans i0
                  have j1 : w15.cell? ⟨b14, 1, none⟩ = some (.string D) := (hd15.below.cell (World.block_lt_of_cell? _ _ i1)).trans i1
                  have HRF := Aside0.mk (HR14.out.below hd15.below)
                  have HBF := Aside0.mk (below_weaken HB14.out HB14.out.size hd15.below)
                  clear hd15
                  try go_wp2_with (fail)
                  refine hKK.out _ _ ⟨j0, j1⟩ ?_
                  clear hKK KK
                  have hs3 : (fun w' => w'.cell? ⟨b14, 0, none⟩ = some (.int .u64 n) ∧ w'.cell? ⟨b14, 1, none⟩ = some (.string D)) w15 := ⟨j0, j1⟩
                  repeat (first | (refine WS_w rfl hs3 (by rfl) (fun KK hKK => ?_); go_simp; refine hKK _ ?_; clear hKK KK) | (refine WS.s rfl hs3 (by rfl) (fun KK hKK => ?_); go_simp; refine hKK _ ?_; clear hKK KK))
                  refine WS.nil ?_
                  clear hs0 hs1 hs2 hs3 e0 e1 f0 f1 g0 g1 i0 i1 j0 j1
                  go_wp2_with (fail)
                  go_roundg k1
                  case measure => exact Nat.lt_succ_self _
                  case rel => exact ⟨x + 1, n, L, _, by go_num, ⟨by have := HI.out; omega⟩, HRF, ⟨HV.out⟩, HOK11, HBF⟩
              have q1 : (((s).size : Int) != K) = false := by simp [hsz]
              by_cases hneg : h < 0
              · have d1 : decide (h < 0) = true := decide_eq_true hneg
                have hE : opE K n h s = 41 := by unfold opE; rw [if_neg (by simpa using hsz), if_pos (.inl hneg)]
                clear hsz hneg
                as_aux_lemma =>
                  have HE := Aside0.mk (show Op.E (Op.mk q yw h s false) K n = 41 from by unfold Op.E; rw [htext, hheight]; exact hE)
                  have HNL := Aside0.mk (nl_nz (Op.mk q yw h s false) (L := L) HE.out)
                  have DC := Aside0.mk (fun {W : World} (hW : Rg W ha (fun j => ok j ∧ j < wr.heap.size) K n L) => show Calls Try.prog 16 #[.pointer (some ⟨ha, 0, none⟩), .agg #[.int .i64 q, .int .i64 yw, .int .i64 h, .string s, .bool false], .int .i64 K] W (Does W ha (fun j => ok j ∧ j < wr.heap.size) K n L (Op.mk q yw h s false)) from does_calls W ha _ K n L (Op.mk q yw h s false) hW HV.out)
                  clear hE htext hheight
                  have HZ8 := Aside0.mk (show wr.heap.size ≤ w8.heap.size from ?hz8)
                  case hz8 => exact HZ8a.out
                  go_wp2_with (first | ((with_reducible refine gate_store (t := 39) (x := .tmp 14) (v := .tmp 69) rfl ?_); refine Sha.wpList_store_row' rfl 39 (.tmp 14) (.tmp 69) rfl w8.heap.size rfl #[.int .u64 n, .string D] rfl _ 39 (blk_new _ _) rfl (by kernel_rfl) (one2 n D) ?_; intro w9 hw9; rw [Sha.setRow_new _ _ _ _ _ rfl] at hw9; rw [← hw9] at HW9 HM9; clear hw9; obtain ⟨c0, c1, c2, c3, c4⟩ := HCK.out w9 HW9.out))
                  have HRX := Aside0.mk (HR8.out.below HW9.out)
                  have HLX := Aside0.mk (HL8.out.below HW9.out)
                  have HMX := Aside0.mk (show w9.heap[b14]? = some (.cells #[.int .u64 n, .string D] 39 (0, 0)) from by rw [HZ14.out]; exact HM9.out)
                  have HBX := Aside0.mk (below_weaken HB8.out HB8.out.size HW9.out)
                  refine (DC.out HRX.out).mono ?_
                  intro e w11 hD
                  obtain ⟨A11, N11, c11, rfl, hbs, hl, hr, hk⟩ := hD.told
                  rw [HE.out]
                  obtain ⟨eN, eL, eM⟩ := HNL.out
                  rw [eM] at hl
                  rw [eN, eL] at hr
                  have hm14 : w11.heap[b14]? = some (.cells #[.int .u64 n, .string D] 39 (0, 0)) := (hk.keep b14 (blkLt HMX.out) (fun h2 => by have := HZ14.out; have := HZ8.out; have := h2.2; omega)).trans HMX.out
                  have HB11 := Aside0.mk (Kp.old HBX.out HBX.out.size hk (fun j h => HOK.out j h.1))
                  have HR11 := Aside0.mk hr
                  have HL11 := Aside0.mk (HLX.out.next (u := .slice A11 N11 c11) hk)
                  have HOK11 := Aside0.mk (show ∀ j, nx w9 (fun j => ok j ∧ j < wr.heap.size) (.slice A11 N11 c11) j → w.heap.size ≤ j from fun j h => by have := HBX.out.size; rcases h with h | h; exact HOK.out j h.1.1; omega)
                  have e0 : w11.cell? ⟨b14, 0, none⟩ = some (.int .u64 n) := by simp [World.cell?, hm14]
                  have e1 : w11.cell? ⟨b14, 1, none⟩ = some (.string D) := by simp [World.cell?, hm14]
                  obtain ⟨hN11, _, _⟩ := hl.C
                  have hN11' : N11 = 0 := hN11
                  subst hN11'
                  clear hN11
                  clear hl hk hr hD hbs hm14 eN eL eM
                  have HRD := Aside0.mk (show Rg w11.drew ha (nx w9 (fun j => ok j ∧ j < wr.heap.size) (.slice A11 0 c11)) K (n : Int) L from HR11.out.step (fun _ _ _ => rfl))
                  have HBD := Aside0.mk (below_drew HB11.out)
                  have HLD := Aside0.mk (HL11.out.below (below_drew (Below.refl _ w11)))
                  go_wp2_with (fail)
                  rw [← HZ14.out]
                  have hs0 : (fun w' => w'.cell? ⟨b14, 0, none⟩ = some (.int .u64 n) ∧ w'.cell? ⟨b14, 1, none⟩ = some (.string D)) w11.drew := ⟨e0, e1⟩
                  refine region_ws ((0, false) :: (1, false) :: (2, false) :: (3, false) :: (4, false) :: (5, false) :: (6, false) :: (7, false) :: (9, false) :: (8, true) :: (10, false) :: (11, false) :: (12, false) :: (13, false) :: (15, false) :: (14, true) :: (16, false) :: (17, false) :: (18, false) :: (19, false) :: (21, false) :: (20, true) :: (22, true) :: (23, false) :: (24, false) :: (25, false) :: (26, false) :: (27, false) :: (28, false) :: (29, false) :: (30, false) :: (32, false) :: (33, false) :: (34, false) :: (35, false) :: (36, false) :: (31, false) :: (37, false) :: (38, false) :: (39, false) :: []) (fun w' => w'.cell? ⟨b14, 0, none⟩ = some (.int .u64 n) ∧ w'.cell? ⟨b14, 1, none⟩ = some (.string D)) (by kernel_rfl) (by kernel_rfl) (fun _ d _ _ _ h => by cases d <;> exact h) ?_
                  repeat (first | (refine WS_w rfl hs0 (by rfl) (fun KK hKK => ?_); go_simp; refine hKK _ ?_; clear hKK KK) | (refine WS.s rfl hs0 (by rfl) (fun KK hKK => ?_); go_simp; refine hKK _ ?_; clear hKK KK))
                  refine WS_c rfl (by rfl) (fun KK hKK => ?_)
                  go_simp
                  refine (size_calls _ ha _ K _ _ HRD.out).mono ?_
                  rintro e w12 ⟨rfl, hq12⟩
                  have f0 : w12.cell? ⟨b14, 0, none⟩ = some (.int .u64 n) := (hq12.cell (World.block_lt_of_cell? _ _ e0)).trans e0
                  have f1 : w12.cell? ⟨b14, 1, none⟩ = some (.string D) := (hq12.cell (World.block_lt_of_cell? _ _ e1)).trans e1
                  have HR12 := Aside0.mk (HRD.out.below hq12)
                  have HL12 := Aside0.mk (HLD.out.below hq12)
                  have HB12 := Aside0.mk (below_weaken HBD.out HBD.out.size hq12)
                  clear hq12
                  try go_wp2_with (fail)
                  refine hKK.out _ _ ⟨f0, f1⟩ ?_
                  clear hKK KK
                  have hs1 : (fun w' => w'.cell? ⟨b14, 0, none⟩ = some (.int .u64 n) ∧ w'.cell? ⟨b14, 1, none⟩ = some (.string D)) w12 := ⟨f0, f1⟩
                  repeat (first | (refine WS_w rfl hs1 (by rfl) (fun KK hKK => ?_); go_simp; refine hKK _ ?_; clear hKK KK) | (refine WS.s rfl hs1 (by rfl) (fun KK hKK => ?_); go_simp; refine hKK _ ?_; clear hKK KK))
                  refine WS.l (.agg #[.int .u64 n, .string D]) rfl hs1 (by rfl) (fun w0 hSw => ?_) (fun KK hKK => ?_)
                  · (obtain ⟨o0, o1⟩ := hSw; clear e0 e1 f0 f1 hs0 hs1; go_simp; try rfl)
                  go_simp
                  refine hKK _ ?_
                  clear hKK KK
                  refine WS_c rfl (by rfl) (fun KK hKK => ?_)
                  go_simp
                  refine (root_calls 100 _ ha _ K n L D HR12.out HRT.out).mono ?_
                  rintro e w13 ⟨rfl, hq13⟩
                  have g0 : w13.cell? ⟨b14, 0, none⟩ = some (.int .u64 n) := (hq13.cell (World.block_lt_of_cell? _ _ f0)).trans f0
                  have g1 : w13.cell? ⟨b14, 1, none⟩ = some (.string D) := (hq13.cell (World.block_lt_of_cell? _ _ f1)).trans f1
                  have HR13 := Aside0.mk (HR12.out.below hq13)
                  have HL13 := Aside0.mk (HL12.out.below hq13)
                  have HB13 := Aside0.mk (below_weaken HB12.out HB12.out.size hq13)
                  clear hq13
                  try go_wp2_with (fail)
                  refine hKK.out _ _ ⟨g0, g1⟩ ?_
                  clear hKK KK
                  have hs2 : (fun w' => w'.cell? ⟨b14, 0, none⟩ = some (.int .u64 n) ∧ w'.cell? ⟨b14, 1, none⟩ = some (.string D)) w13 := ⟨g0, g1⟩
                  repeat (first | (refine WS_w rfl hs2 (by rfl) (fun KK hKK => ?_); go_simp; refine hKK _ ?_; clear hKK KK) | (refine WS.s rfl hs2 (by rfl) (fun KK hKK => ?_); go_simp; refine hKK _ ?_; clear hKK KK))
                  refine WS_c rfl (by rfl) (fun KK hKK => ?_)
                  go_simp
                  refine (peaks_calls _ ha _ K n L HR13.out HLN.out).mono ?_
                  rintro e w14 ⟨v14, rfl, hr14, hq14⟩
                  obtain ⟨A14, c14, e14, hcc14, hC14⟩ := Kd.R_reads hr14
                  subst e14
                  have i0 : w14.cell? ⟨b14, 0, none⟩ = some (.int .u64 n) := (hq14.cell (World.block_lt_of_cell? _ _ g0)).trans g0
                  have i1 : w14.cell? ⟨b14, 1, none⟩ = some (.string D) := (hq14.cell (World.block_lt_of_cell? _ _ g1)).trans g1
                  have HR14 := Aside0.mk (HR13.out.below hq14)
                  have HL14 := Aside0.mk (HL13.out.below hq14).C
                  have HC14 := Aside0.mk (And.intro hcc14 hC14)
                  have HB14 := Aside0.mk (below_weaken HB13.out HB13.out.size hq14)
                  clear hr14 hcc14 hC14 hq14
                  try go_wp2_with (fail)
                  refine hKK.out _ _ ⟨i0, i1⟩ ?_
                  clear hKK KK
                  refine WS_c rfl (by rfl) (fun KK hKK => ?_)
                  go_simp
                  refine (massiflaw09_same.calls 1000 A14 c14 L A6 c6 L true _ HC14.out.2 HC14.out.1 HL14.out.2.2 HL14.out.2.1 (massiflaw09_same.is 1000 L (Nat.le_trans HLN.out (by decide)) HLN2.out)).mono ?_
                  rintro e w15 ⟨rfl, hd15⟩
                  have j0 : w15.cell? ⟨b14, 0, none⟩ = some (.int .u64 n) := (hd15.below.cell (World.block_lt_of_cell? _ _ i0)).trans i0
                  have j1 : w15.cell? ⟨b14, 1, none⟩ = some (.string D) := (hd15.below.cell (World.block_lt_of_cell? _ _ i1)).trans i1
                  have HRF := Aside0.mk (HR14.out.below hd15.below)
                  have HBF := Aside0.mk (below_weaken HB14.out HB14.out.size hd15.below)
                  clear hd15
                  try go_wp2_with (fail)
                  refine hKK.out _ _ ⟨j0, j1⟩ ?_
                  clear hKK KK
                  have hs3 : (fun w' => w'.cell? ⟨b14, 0, none⟩ = some (.int .u64 n) ∧ w'.cell? ⟨b14, 1, none⟩ = some (.string D)) w15 := ⟨j0, j1⟩
                  repeat (first | (refine WS_w rfl hs3 (by rfl) (fun KK hKK => ?_); go_simp; refine hKK _ ?_; clear hKK KK) | (refine WS.s rfl hs3 (by rfl) (fun KK hKK => ?_); go_simp; refine hKK _ ?_; clear hKK KK))
                  refine WS.nil ?_
                  clear hs0 hs1 hs2 hs3 e0 e1 f0 f1 g0 g1 i0 i1 j0 j1
                  go_wp2_with (fail)
                  go_roundg k1
                  case measure => exact Nat.lt_succ_self _
                  case rel => exact ⟨x + 1, n, L, _, by go_num, ⟨by have := HI.out; omega⟩, HRF, ⟨HV.out⟩, HOK11, HBF⟩
              have d1 : decide (h < 0) = false := decide_eq_false hneg
              by_cases hbig : 40 < h
              · have d2 : decide (40 < h) = true := decide_eq_true hbig
                have hE : opE K n h s = 41 := by unfold opE; rw [if_neg (by simpa using hsz), if_pos (.inr (.inl hbig))]
                clear hsz hneg hbig
                as_aux_lemma =>
                  have HE := Aside0.mk (show Op.E (Op.mk q yw h s false) K n = 41 from by unfold Op.E; rw [htext, hheight]; exact hE)
                  have HNL := Aside0.mk (nl_nz (Op.mk q yw h s false) (L := L) HE.out)
                  have DC := Aside0.mk (fun {W : World} (hW : Rg W ha (fun j => ok j ∧ j < wr.heap.size) K n L) => show Calls Try.prog 16 #[.pointer (some ⟨ha, 0, none⟩), .agg #[.int .i64 q, .int .i64 yw, .int .i64 h, .string s, .bool false], .int .i64 K] W (Does W ha (fun j => ok j ∧ j < wr.heap.size) K n L (Op.mk q yw h s false)) from does_calls W ha _ K n L (Op.mk q yw h s false) hW HV.out)
                  clear hE htext hheight
                  have HZ8 := Aside0.mk (show wr.heap.size ≤ w8.heap.size from ?hz8)
                  case hz8 => exact HZ8a.out
                  go_wp2_with (first | ((with_reducible refine gate_store (t := 39) (x := .tmp 14) (v := .tmp 69) rfl ?_); refine Sha.wpList_store_row' rfl 39 (.tmp 14) (.tmp 69) rfl w8.heap.size rfl #[.int .u64 n, .string D] rfl _ 39 (blk_new _ _) rfl (by kernel_rfl) (one2 n D) ?_; intro w9 hw9; rw [Sha.setRow_new _ _ _ _ _ rfl] at hw9; rw [← hw9] at HW9 HM9; clear hw9; obtain ⟨c0, c1, c2, c3, c4⟩ := HCK.out w9 HW9.out))
                  have HRX := Aside0.mk (HR8.out.below HW9.out)
                  have HLX := Aside0.mk (HL8.out.below HW9.out)
                  have HMX := Aside0.mk (show w9.heap[b14]? = some (.cells #[.int .u64 n, .string D] 39 (0, 0)) from by rw [HZ14.out]; exact HM9.out)
                  have HBX := Aside0.mk (below_weaken HB8.out HB8.out.size HW9.out)
                  refine (DC.out HRX.out).mono ?_
                  intro e w11 hD
                  obtain ⟨A11, N11, c11, rfl, hbs, hl, hr, hk⟩ := hD.told
                  rw [HE.out]
                  obtain ⟨eN, eL, eM⟩ := HNL.out
                  rw [eM] at hl
                  rw [eN, eL] at hr
                  have hm14 : w11.heap[b14]? = some (.cells #[.int .u64 n, .string D] 39 (0, 0)) := (hk.keep b14 (blkLt HMX.out) (fun h2 => by have := HZ14.out; have := HZ8.out; have := h2.2; omega)).trans HMX.out
                  have HB11 := Aside0.mk (Kp.old HBX.out HBX.out.size hk (fun j h => HOK.out j h.1))
                  have HR11 := Aside0.mk hr
                  have HL11 := Aside0.mk (HLX.out.next (u := .slice A11 N11 c11) hk)
                  have HOK11 := Aside0.mk (show ∀ j, nx w9 (fun j => ok j ∧ j < wr.heap.size) (.slice A11 N11 c11) j → w.heap.size ≤ j from fun j h => by have := HBX.out.size; rcases h with h | h; exact HOK.out j h.1.1; omega)
                  have e0 : w11.cell? ⟨b14, 0, none⟩ = some (.int .u64 n) := by simp [World.cell?, hm14]
                  have e1 : w11.cell? ⟨b14, 1, none⟩ = some (.string D) := by simp [World.cell?, hm14]
                  obtain ⟨hN11, _, _⟩ := hl.C
                  have hN11' : N11 = 0 := hN11
                  subst hN11'
                  clear hN11
                  clear hl hk hr hD hbs hm14 eN eL eM
                  have HRD := Aside0.mk (show Rg w11.drew ha (nx w9 (fun j => ok j ∧ j < wr.heap.size) (.slice A11 0 c11)) K (n : Int) L from HR11.out.step (fun _ _ _ => rfl))
                  have HBD := Aside0.mk (below_drew HB11.out)
                  have HLD := Aside0.mk (HL11.out.below (below_drew (Below.refl _ w11)))
                  go_wp2_with (fail)
                  rw [← HZ14.out]
                  have hs0 : (fun w' => w'.cell? ⟨b14, 0, none⟩ = some (.int .u64 n) ∧ w'.cell? ⟨b14, 1, none⟩ = some (.string D)) w11.drew := ⟨e0, e1⟩
                  refine region_ws ((0, false) :: (1, false) :: (2, false) :: (3, false) :: (4, false) :: (5, false) :: (6, false) :: (7, false) :: (9, false) :: (8, true) :: (10, false) :: (11, false) :: (12, false) :: (13, false) :: (15, false) :: (14, true) :: (16, false) :: (17, false) :: (18, false) :: (19, false) :: (21, false) :: (20, true) :: (22, true) :: (23, false) :: (24, false) :: (25, false) :: (26, false) :: (27, false) :: (28, false) :: (29, false) :: (30, false) :: (32, false) :: (33, false) :: (34, false) :: (35, false) :: (36, false) :: (31, false) :: (37, false) :: (38, false) :: (39, false) :: []) (fun w' => w'.cell? ⟨b14, 0, none⟩ = some (.int .u64 n) ∧ w'.cell? ⟨b14, 1, none⟩ = some (.string D)) (by kernel_rfl) (by kernel_rfl) (fun _ d _ _ _ h => by cases d <;> exact h) ?_
                  repeat (first | (refine WS_w rfl hs0 (by rfl) (fun KK hKK => ?_); go_simp; refine hKK _ ?_; clear hKK KK) | (refine WS.s rfl hs0 (by rfl) (fun KK hKK => ?_); go_simp; refine hKK _ ?_; clear hKK KK))
                  refine WS_c rfl (by rfl) (fun KK hKK => ?_)
                  go_simp
                  refine (size_calls _ ha _ K _ _ HRD.out).mono ?_
                  rintro e w12 ⟨rfl, hq12⟩
                  have f0 : w12.cell? ⟨b14, 0, none⟩ = some (.int .u64 n) := (hq12.cell (World.block_lt_of_cell? _ _ e0)).trans e0
                  have f1 : w12.cell? ⟨b14, 1, none⟩ = some (.string D) := (hq12.cell (World.block_lt_of_cell? _ _ e1)).trans e1
                  have HR12 := Aside0.mk (HRD.out.below hq12)
                  have HL12 := Aside0.mk (HLD.out.below hq12)
                  have HB12 := Aside0.mk (below_weaken HBD.out HBD.out.size hq12)
                  clear hq12
                  try go_wp2_with (fail)
                  refine hKK.out _ _ ⟨f0, f1⟩ ?_
                  clear hKK KK
                  have hs1 : (fun w' => w'.cell? ⟨b14, 0, none⟩ = some (.int .u64 n) ∧ w'.cell? ⟨b14, 1, none⟩ = some (.string D)) w12 := ⟨f0, f1⟩
                  repeat (first | (refine WS_w rfl hs1 (by rfl) (fun KK hKK => ?_); go_simp; refine hKK _ ?_; clear hKK KK) | (refine WS.s rfl hs1 (by rfl) (fun KK hKK => ?_); go_simp; refine hKK _ ?_; clear hKK KK))
                  refine WS.l (.agg #[.int .u64 n, .string D]) rfl hs1 (by rfl) (fun w0 hSw => ?_) (fun KK hKK => ?_)
                  · (obtain ⟨o0, o1⟩ := hSw; clear e0 e1 f0 f1 hs0 hs1; go_simp; try rfl)
                  go_simp
                  refine hKK _ ?_
                  clear hKK KK
                  refine WS_c rfl (by rfl) (fun KK hKK => ?_)
                  go_simp
                  refine (root_calls 100 _ ha _ K n L D HR12.out HRT.out).mono ?_
                  rintro e w13 ⟨rfl, hq13⟩
                  have g0 : w13.cell? ⟨b14, 0, none⟩ = some (.int .u64 n) := (hq13.cell (World.block_lt_of_cell? _ _ f0)).trans f0
                  have g1 : w13.cell? ⟨b14, 1, none⟩ = some (.string D) := (hq13.cell (World.block_lt_of_cell? _ _ f1)).trans f1
                  have HR13 := Aside0.mk (HR12.out.below hq13)
                  have HL13 := Aside0.mk (HL12.out.below hq13)
                  have HB13 := Aside0.mk (below_weaken HB12.out HB12.out.size hq13)
                  clear hq13
                  try go_wp2_with (fail)
                  refine hKK.out _ _ ⟨g0, g1⟩ ?_
                  clear hKK KK
                  have hs2 : (fun w' => w'.cell? ⟨b14, 0, none⟩ = some (.int .u64 n) ∧ w'.cell? ⟨b14, 1, none⟩ = some (.string D)) w13 := ⟨g0, g1⟩
                  repeat (first | (refine WS_w rfl hs2 (by rfl) (fun KK hKK => ?_); go_simp; refine hKK _ ?_; clear hKK KK) | (refine WS.s rfl hs2 (by rfl) (fun KK hKK => ?_); go_simp; refine hKK _ ?_; clear hKK KK))
                  refine WS_c rfl (by rfl) (fun KK hKK => ?_)
                  go_simp
                  refine (peaks_calls _ ha _ K n L HR13.out HLN.out).mono ?_
                  rintro e w14 ⟨v14, rfl, hr14, hq14⟩
                  obtain ⟨A14, c14, e14, hcc14, hC14⟩ := Kd.R_reads hr14
                  subst e14
                  have i0 : w14.cell? ⟨b14, 0, none⟩ = some (.int .u64 n) := (hq14.cell (World.block_lt_of_cell? _ _ g0)).trans g0
                  have i1 : w14.cell? ⟨b14, 1, none⟩ = some (.string D) := (hq14.cell (World.block_lt_of_cell? _ _ g1)).trans g1
                  have HR14 := Aside0.mk (HR13.out.below hq14)
                  have HL14 := Aside0.mk (HL13.out.below hq14).C
                  have HC14 := Aside0.mk (And.intro hcc14 hC14)
                  have HB14 := Aside0.mk (below_weaken HB13.out HB13.out.size hq14)
                  clear hr14 hcc14 hC14 hq14
                  try go_wp2_with (fail)
                  refine hKK.out _ _ ⟨i0, i1⟩ ?_
                  clear hKK KK
                  refine WS_c rfl (by rfl) (fun KK hKK => ?_)
                  go_simp
                  refine (massiflaw09_same.calls 1000 A14 c14 L A6 c6 L true _ HC14.out.2 HC14.out.1 HL14.out.2.2 HL14.out.2.1 (massiflaw09_same.is 1000 L (Nat.le_trans HLN.out (by decide)) HLN2.out)).mono ?_
                  rintro e w15 ⟨rfl, hd15⟩
                  have j0 : w15.cell? ⟨b14, 0, none⟩ = some (.int .u64 n) := (hd15.below.cell (World.block_lt_of_cell? _ _ i0)).trans i0
                  have j1 : w15.cell? ⟨b14, 1, none⟩ = some (.string D) := (hd15.below.cell (World.block_lt_of_cell? _ _ i1)).trans i1
                  have HRF := Aside0.mk (HR14.out.below hd15.below)
                  have HBF := Aside0.mk (below_weaken HB14.out HB14.out.size hd15.below)
                  clear hd15
                  try go_wp2_with (fail)
                  refine hKK.out _ _ ⟨j0, j1⟩ ?_
                  clear hKK KK
                  have hs3 : (fun w' => w'.cell? ⟨b14, 0, none⟩ = some (.int .u64 n) ∧ w'.cell? ⟨b14, 1, none⟩ = some (.string D)) w15 := ⟨j0, j1⟩
                  repeat (first | (refine WS_w rfl hs3 (by rfl) (fun KK hKK => ?_); go_simp; refine hKK _ ?_; clear hKK KK) | (refine WS.s rfl hs3 (by rfl) (fun KK hKK => ?_); go_simp; refine hKK _ ?_; clear hKK KK))
                  refine WS.nil ?_
                  clear hs0 hs1 hs2 hs3 e0 e1 f0 f1 g0 g1 i0 i1 j0 j1
                  go_wp2_with (fail)
                  go_roundg k1
                  case measure => exact Nat.lt_succ_self _
                  case rel => exact ⟨x + 1, n, L, _, by go_num, ⟨by have := HI.out; omega⟩, HRF, ⟨HV.out⟩, HOK11, HBF⟩
              have d2 : decide (40 < h) = false := decide_eq_false hbig
              obtain ⟨g, rfl⟩ : ∃ g : Nat, h = g := ⟨h.toNat, by omega⟩
              have hg : g ≤ 40 := by omega
              clear hneg hbig
              obtain ⟨z1, z2, z3⟩ := tests_u64 n g HV.out.n1 hg
              by_cases hmod : n % 2 ^ g = 0
              rotate_left
              · have m1 := z2.1 hmod
                have hE : opE K n (g : Int) s = 41 := by unfold opE; rw [if_neg (by simpa using hsz), if_pos (.inr (.inr (by simpa using hmod)))]
                clear hsz z2 z3 hmod
                as_aux_lemma =>
                  have HE := Aside0.mk (show Op.E (Op.mk q yw (g : Int) s false) K n = 41 from by unfold Op.E; rw [htext, hheight]; exact hE)
                  have HNL := Aside0.mk (nl_nz (Op.mk q yw (g : Int) s false) (L := L) HE.out)
                  have DC := Aside0.mk (fun {W : World} (hW : Rg W ha (fun j => ok j ∧ j < wr.heap.size) K n L) => show Calls Try.prog 16 #[.pointer (some ⟨ha, 0, none⟩), .agg #[.int .i64 q, .int .i64 yw, .int .i64 (g : Int), .string s, .bool false], .int .i64 K] W (Does W ha (fun j => ok j ∧ j < wr.heap.size) K n L (Op.mk q yw (g : Int) s false)) from does_calls W ha _ K n L (Op.mk q yw (g : Int) s false) hW HV.out)
                  clear hE htext hheight
                  have HZ8 := Aside0.mk (show wr.heap.size ≤ w8.heap.size from ?hz8)
                  case hz8 => exact HZ8a.out
                  go_wp2_with (first | ((with_reducible refine gate_store (t := 39) (x := .tmp 14) (v := .tmp 69) rfl ?_); refine Sha.wpList_store_row' rfl 39 (.tmp 14) (.tmp 69) rfl w8.heap.size rfl #[.int .u64 n, .string D] rfl _ 39 (blk_new _ _) rfl (by kernel_rfl) (one2 n D) ?_; intro w9 hw9; rw [Sha.setRow_new _ _ _ _ _ rfl] at hw9; rw [← hw9] at HW9 HM9; clear hw9; obtain ⟨c0, c1, c2, c3, c4⟩ := HCK.out w9 HW9.out))
                  have HRX := Aside0.mk (HR8.out.below HW9.out)
                  have HLX := Aside0.mk (HL8.out.below HW9.out)
                  have HMX := Aside0.mk (show w9.heap[b14]? = some (.cells #[.int .u64 n, .string D] 39 (0, 0)) from by rw [HZ14.out]; exact HM9.out)
                  have HBX := Aside0.mk (below_weaken HB8.out HB8.out.size HW9.out)
                  refine (DC.out HRX.out).mono ?_
                  intro e w11 hD
                  obtain ⟨A11, N11, c11, rfl, hbs, hl, hr, hk⟩ := hD.told
                  rw [HE.out]
                  obtain ⟨eN, eL, eM⟩ := HNL.out
                  rw [eM] at hl
                  rw [eN, eL] at hr
                  have hm14 : w11.heap[b14]? = some (.cells #[.int .u64 n, .string D] 39 (0, 0)) := (hk.keep b14 (blkLt HMX.out) (fun h2 => by have := HZ14.out; have := HZ8.out; have := h2.2; omega)).trans HMX.out
                  have HB11 := Aside0.mk (Kp.old HBX.out HBX.out.size hk (fun j h => HOK.out j h.1))
                  have HR11 := Aside0.mk hr
                  have HL11 := Aside0.mk (HLX.out.next (u := .slice A11 N11 c11) hk)
                  have HOK11 := Aside0.mk (show ∀ j, nx w9 (fun j => ok j ∧ j < wr.heap.size) (.slice A11 N11 c11) j → w.heap.size ≤ j from fun j h => by have := HBX.out.size; rcases h with h | h; exact HOK.out j h.1.1; omega)
                  have e0 : w11.cell? ⟨b14, 0, none⟩ = some (.int .u64 n) := by simp [World.cell?, hm14]
                  have e1 : w11.cell? ⟨b14, 1, none⟩ = some (.string D) := by simp [World.cell?, hm14]
                  obtain ⟨hN11, _, _⟩ := hl.C
                  have hN11' : N11 = 0 := hN11
                  subst hN11'
                  clear hN11
                  clear hl hk hr hD hbs hm14 eN eL eM
                  have HRD := Aside0.mk (show Rg w11.drew ha (nx w9 (fun j => ok j ∧ j < wr.heap.size) (.slice A11 0 c11)) K (n : Int) L from HR11.out.step (fun _ _ _ => rfl))
                  have HBD := Aside0.mk (below_drew HB11.out)
                  have HLD := Aside0.mk (HL11.out.below (below_drew (Below.refl _ w11)))
                  go_wp2_with (fail)
                  rw [← HZ14.out]
                  have hs0 : (fun w' => w'.cell? ⟨b14, 0, none⟩ = some (.int .u64 n) ∧ w'.cell? ⟨b14, 1, none⟩ = some (.string D)) w11.drew := ⟨e0, e1⟩
                  refine region_ws ((0, false) :: (1, false) :: (2, false) :: (3, false) :: (4, false) :: (5, false) :: (6, false) :: (7, false) :: (9, false) :: (8, true) :: (10, false) :: (11, false) :: (12, false) :: (13, false) :: (15, false) :: (14, true) :: (16, false) :: (17, false) :: (18, false) :: (19, false) :: (21, false) :: (20, true) :: (22, true) :: (23, false) :: (24, false) :: (25, false) :: (26, false) :: (27, false) :: (28, false) :: (29, false) :: (30, false) :: (32, false) :: (33, false) :: (34, false) :: (35, false) :: (36, false) :: (31, false) :: (37, false) :: (38, false) :: (39, false) :: []) (fun w' => w'.cell? ⟨b14, 0, none⟩ = some (.int .u64 n) ∧ w'.cell? ⟨b14, 1, none⟩ = some (.string D)) (by kernel_rfl) (by kernel_rfl) (fun _ d _ _ _ h => by cases d <;> exact h) ?_
                  repeat (first | (refine WS_w rfl hs0 (by rfl) (fun KK hKK => ?_); go_simp; refine hKK _ ?_; clear hKK KK) | (refine WS.s rfl hs0 (by rfl) (fun KK hKK => ?_); go_simp; refine hKK _ ?_; clear hKK KK))
                  refine WS_c rfl (by rfl) (fun KK hKK => ?_)
                  go_simp
                  refine (size_calls _ ha _ K _ _ HRD.out).mono ?_
                  rintro e w12 ⟨rfl, hq12⟩
                  have f0 : w12.cell? ⟨b14, 0, none⟩ = some (.int .u64 n) := (hq12.cell (World.block_lt_of_cell? _ _ e0)).trans e0
                  have f1 : w12.cell? ⟨b14, 1, none⟩ = some (.string D) := (hq12.cell (World.block_lt_of_cell? _ _ e1)).trans e1
                  have HR12 := Aside0.mk (HRD.out.below hq12)
                  have HL12 := Aside0.mk (HLD.out.below hq12)
                  have HB12 := Aside0.mk (below_weaken HBD.out HBD.out.size hq12)
                  clear hq12
                  try go_wp2_with (fail)
                  refine hKK.out _ _ ⟨f0, f1⟩ ?_
                  clear hKK KK
                  have hs1 : (fun w' => w'.cell? ⟨b14, 0, none⟩ = some (.int .u64 n) ∧ w'.cell? ⟨b14, 1, none⟩ = some (.string D)) w12 := ⟨f0, f1⟩
                  repeat (first | (refine WS_w rfl hs1 (by rfl) (fun KK hKK => ?_); go_simp; refine hKK _ ?_; clear hKK KK) | (refine WS.s rfl hs1 (by rfl) (fun KK hKK => ?_); go_simp; refine hKK _ ?_; clear hKK KK))
                  refine WS.l (.agg #[.int .u64 n, .string D]) rfl hs1 (by rfl) (fun w0 hSw => ?_) (fun KK hKK => ?_)
                  · (obtain ⟨o0, o1⟩ := hSw; clear e0 e1 f0 f1 hs0 hs1; go_simp; try rfl)
                  go_simp
                  refine hKK _ ?_
                  clear hKK KK
                  refine WS_c rfl (by rfl) (fun KK hKK => ?_)
                  go_simp
                  refine (root_calls 100 _ ha _ K n L D HR12.out HRT.out).mono ?_
                  rintro e w13 ⟨rfl, hq13⟩
                  have g0 : w13.cell? ⟨b14, 0, none⟩ = some (.int .u64 n) := (hq13.cell (World.block_lt_of_cell? _ _ f0)).trans f0
                  have g1 : w13.cell? ⟨b14, 1, none⟩ = some (.string D) := (hq13.cell (World.block_lt_of_cell? _ _ f1)).trans f1
                  have HR13 := Aside0.mk (HR12.out.below hq13)
                  have HL13 := Aside0.mk (HL12.out.below hq13)
                  have HB13 := Aside0.mk (below_weaken HB12.out HB12.out.size hq13)
                  clear hq13
                  try go_wp2_with (fail)
                  refine hKK.out _ _ ⟨g0, g1⟩ ?_
                  clear hKK KK
                  have hs2 : (fun w' => w'.cell? ⟨b14, 0, none⟩ = some (.int .u64 n) ∧ w'.cell? ⟨b14, 1, none⟩ = some (.string D)) w13 := ⟨g0, g1⟩
                  repeat (first | (refine WS_w rfl hs2 (by rfl) (fun KK hKK => ?_); go_simp; refine hKK _ ?_; clear hKK KK) | (refine WS.s rfl hs2 (by rfl) (fun KK hKK => ?_); go_simp; refine hKK _ ?_; clear hKK KK))
                  refine WS_c rfl (by rfl) (fun KK hKK => ?_)
                  go_simp
                  refine (peaks_calls _ ha _ K n L HR13.out HLN.out).mono ?_
                  rintro e w14 ⟨v14, rfl, hr14, hq14⟩
                  obtain ⟨A14, c14, e14, hcc14, hC14⟩ := Kd.R_reads hr14
                  subst e14
                  have i0 : w14.cell? ⟨b14, 0, none⟩ = some (.int .u64 n) := (hq14.cell (World.block_lt_of_cell? _ _ g0)).trans g0
                  have i1 : w14.cell? ⟨b14, 1, none⟩ = some (.string D) := (hq14.cell (World.block_lt_of_cell? _ _ g1)).trans g1
                  have HR14 := Aside0.mk (HR13.out.below hq14)
                  have HL14 := Aside0.mk (HL13.out.below hq14).C
                  have HC14 := Aside0.mk (And.intro hcc14 hC14)
                  have HB14 := Aside0.mk (below_weaken HB13.out HB13.out.size hq14)
                  clear hr14 hcc14 hC14 hq14
                  try go_wp2_with (fail)
                  refine hKK.out _ _ ⟨i0, i1⟩ ?_
                  clear hKK KK
                  refine WS_c rfl (by rfl) (fun KK hKK => ?_)
                  go_simp
                  refine (massiflaw09_same.calls 1000 A14 c14 L A6 c6 L true _ HC14.out.2 HC14.out.1 HL14.out.2.2 HL14.out.2.1 (massiflaw09_same.is 1000 L (Nat.le_trans HLN.out (by decide)) HLN2.out)).mono ?_
                  rintro e w15 ⟨rfl, hd15⟩
                  have j0 : w15.cell? ⟨b14, 0, none⟩ = some (.int .u64 n) := (hd15.below.cell (World.block_lt_of_cell? _ _ i0)).trans i0
                  have j1 : w15.cell? ⟨b14, 1, none⟩ = some (.string D) := (hd15.below.cell (World.block_lt_of_cell? _ _ i1)).trans i1
                  have HRF := Aside0.mk (HR14.out.below hd15.below)
                  have HBF := Aside0.mk (below_weaken HB14.out HB14.out.size hd15.below)
                  clear hd15
                  try go_wp2_with (fail)
                  refine hKK.out _ _ ⟨j0, j1⟩ ?_
                  clear hKK KK
                  have hs3 : (fun w' => w'.cell? ⟨b14, 0, none⟩ = some (.int .u64 n) ∧ w'.cell? ⟨b14, 1, none⟩ = some (.string D)) w15 := ⟨j0, j1⟩
                  repeat (first | (refine WS_w rfl hs3 (by rfl) (fun KK hKK => ?_); go_simp; refine hKK _ ?_; clear hKK KK) | (refine WS.s rfl hs3 (by rfl) (fun KK hKK => ?_); go_simp; refine hKK _ ?_; clear hKK KK))
                  refine WS.nil ?_
                  clear hs0 hs1 hs2 hs3 e0 e1 f0 f1 g0 g1 i0 i1 j0 j1
                  go_wp2_with (fail)
                  go_roundg k1
                  case measure => exact Nat.lt_succ_self _
                  case rel => exact ⟨x + 1, n, L, _, by go_num, ⟨by have := HI.out; omega⟩, HRF, ⟨HV.out⟩, HOK11, HBF⟩
              have m1 := z2.2 hmod
              by_cases hov : 2 ^ 40 < n + 2 ^ g
              · have m2 := z3.1 hov
                have hE : opE K n (g : Int) s = 30 := by unfold opE; rw [if_neg (by simpa using hsz), if_neg (by simp [hmod]; omega), if_pos (by simpa using hov)]
                clear hsz z2 z3 hmod hov
                as_aux_lemma =>
                  have HE := Aside0.mk (show Op.E (Op.mk q yw (g : Int) s false) K n = 30 from by unfold Op.E; rw [htext, hheight]; exact hE)
                  have HNL := Aside0.mk (nl_nz (Op.mk q yw (g : Int) s false) (L := L) HE.out)
                  have DC := Aside0.mk (fun {W : World} (hW : Rg W ha (fun j => ok j ∧ j < wr.heap.size) K n L) => show Calls Try.prog 16 #[.pointer (some ⟨ha, 0, none⟩), .agg #[.int .i64 q, .int .i64 yw, .int .i64 (g : Int), .string s, .bool false], .int .i64 K] W (Does W ha (fun j => ok j ∧ j < wr.heap.size) K n L (Op.mk q yw (g : Int) s false)) from does_calls W ha _ K n L (Op.mk q yw (g : Int) s false) hW HV.out)
                  clear hE htext hheight
                  have HZ8 := Aside0.mk (show wr.heap.size ≤ w8.heap.size from ?hz8)
                  case hz8 => exact HZ8a.out
                  go_wp2_with (first | ((with_reducible refine gate_store (t := 39) (x := .tmp 14) (v := .tmp 69) rfl ?_); refine Sha.wpList_store_row' rfl 39 (.tmp 14) (.tmp 69) rfl w8.heap.size rfl #[.int .u64 n, .string D] rfl _ 39 (blk_new _ _) rfl (by kernel_rfl) (one2 n D) ?_; intro w9 hw9; rw [Sha.setRow_new _ _ _ _ _ rfl] at hw9; rw [← hw9] at HW9 HM9; clear hw9; obtain ⟨c0, c1, c2, c3, c4⟩ := HCK.out w9 HW9.out))
                  have HRX := Aside0.mk (HR8.out.below HW9.out)
                  have HLX := Aside0.mk (HL8.out.below HW9.out)
                  have HMX := Aside0.mk (show w9.heap[b14]? = some (.cells #[.int .u64 n, .string D] 39 (0, 0)) from by rw [HZ14.out]; exact HM9.out)
                  have HBX := Aside0.mk (below_weaken HB8.out HB8.out.size HW9.out)
                  refine (DC.out HRX.out).mono ?_
                  intro e w11 hD
                  obtain ⟨A11, N11, c11, rfl, hbs, hl, hr, hk⟩ := hD.told
                  rw [HE.out]
                  obtain ⟨eN, eL, eM⟩ := HNL.out
                  rw [eM] at hl
                  rw [eN, eL] at hr
                  have hm14 : w11.heap[b14]? = some (.cells #[.int .u64 n, .string D] 39 (0, 0)) := (hk.keep b14 (blkLt HMX.out) (fun h2 => by have := HZ14.out; have := HZ8.out; have := h2.2; omega)).trans HMX.out
                  have HB11 := Aside0.mk (Kp.old HBX.out HBX.out.size hk (fun j h => HOK.out j h.1))
                  have HR11 := Aside0.mk hr
                  have HL11 := Aside0.mk (HLX.out.next (u := .slice A11 N11 c11) hk)
                  have HOK11 := Aside0.mk (show ∀ j, nx w9 (fun j => ok j ∧ j < wr.heap.size) (.slice A11 N11 c11) j → w.heap.size ≤ j from fun j h => by have := HBX.out.size; rcases h with h | h; exact HOK.out j h.1.1; omega)
                  have e0 : w11.cell? ⟨b14, 0, none⟩ = some (.int .u64 n) := by simp [World.cell?, hm14]
                  have e1 : w11.cell? ⟨b14, 1, none⟩ = some (.string D) := by simp [World.cell?, hm14]
                  obtain ⟨hN11, _, _⟩ := hl.C
                  have hN11' : N11 = 0 := hN11
                  subst hN11'
                  clear hN11
                  clear hl hk hr hD hbs hm14 eN eL eM
                  have HRD := Aside0.mk (show Rg w11.drew ha (nx w9 (fun j => ok j ∧ j < wr.heap.size) (.slice A11 0 c11)) K (n : Int) L from HR11.out.step (fun _ _ _ => rfl))
                  have HBD := Aside0.mk (below_drew HB11.out)
                  have HLD := Aside0.mk (HL11.out.below (below_drew (Below.refl _ w11)))
                  go_wp2_with (fail)
                  rw [← HZ14.out]
                  have hs0 : (fun w' => w'.cell? ⟨b14, 0, none⟩ = some (.int .u64 n) ∧ w'.cell? ⟨b14, 1, none⟩ = some (.string D)) w11.drew := ⟨e0, e1⟩
                  refine region_ws ((0, false) :: (1, false) :: (2, false) :: (3, false) :: (4, false) :: (5, false) :: (6, false) :: (7, false) :: (9, false) :: (8, true) :: (10, false) :: (11, false) :: (12, false) :: (13, false) :: (15, false) :: (14, true) :: (16, false) :: (17, false) :: (18, false) :: (19, false) :: (21, false) :: (20, true) :: (22, true) :: (23, false) :: (24, false) :: (25, false) :: (26, false) :: (27, false) :: (28, false) :: (29, false) :: (30, false) :: (32, false) :: (33, false) :: (34, false) :: (35, false) :: (36, false) :: (31, false) :: (37, false) :: (38, false) :: (39, false) :: []) (fun w' => w'.cell? ⟨b14, 0, none⟩ = some (.int .u64 n) ∧ w'.cell? ⟨b14, 1, none⟩ = some (.string D)) (by kernel_rfl) (by kernel_rfl) (fun _ d _ _ _ h => by cases d <;> exact h) ?_
                  repeat (first | (refine WS_w rfl hs0 (by rfl) (fun KK hKK => ?_); go_simp; refine hKK _ ?_; clear hKK KK) | (refine WS.s rfl hs0 (by rfl) (fun KK hKK => ?_); go_simp; refine hKK _ ?_; clear hKK KK))
                  refine WS_c rfl (by rfl) (fun KK hKK => ?_)
                  go_simp
                  refine (size_calls _ ha _ K _ _ HRD.out).mono ?_
                  rintro e w12 ⟨rfl, hq12⟩
                  have f0 : w12.cell? ⟨b14, 0, none⟩ = some (.int .u64 n) := (hq12.cell (World.block_lt_of_cell? _ _ e0)).trans e0
                  have f1 : w12.cell? ⟨b14, 1, none⟩ = some (.string D) := (hq12.cell (World.block_lt_of_cell? _ _ e1)).trans e1
                  have HR12 := Aside0.mk (HRD.out.below hq12)
                  have HL12 := Aside0.mk (HLD.out.below hq12)
                  have HB12 := Aside0.mk (below_weaken HBD.out HBD.out.size hq12)
                  clear hq12
                  try go_wp2_with (fail)
                  refine hKK.out _ _ ⟨f0, f1⟩ ?_
                  clear hKK KK
                  have hs1 : (fun w' => w'.cell? ⟨b14, 0, none⟩ = some (.int .u64 n) ∧ w'.cell? ⟨b14, 1, none⟩ = some (.string D)) w12 := ⟨f0, f1⟩
                  repeat (first | (refine WS_w rfl hs1 (by rfl) (fun KK hKK => ?_); go_simp; refine hKK _ ?_; clear hKK KK) | (refine WS.s rfl hs1 (by rfl) (fun KK hKK => ?_); go_simp; refine hKK _ ?_; clear hKK KK))
                  refine WS.l (.agg #[.int .u64 n, .string D]) rfl hs1 (by rfl) (fun w0 hSw => ?_) (fun KK hKK => ?_)
                  · (obtain ⟨o0, o1⟩ := hSw; clear e0 e1 f0 f1 hs0 hs1; go_simp; try rfl)
                  go_simp
                  refine hKK _ ?_
                  clear hKK KK
                  refine WS_c rfl (by rfl) (fun KK hKK => ?_)
                  go_simp
                  refine (root_calls 100 _ ha _ K n L D HR12.out HRT.out).mono ?_
                  rintro e w13 ⟨rfl, hq13⟩
                  have g0 : w13.cell? ⟨b14, 0, none⟩ = some (.int .u64 n) := (hq13.cell (World.block_lt_of_cell? _ _ f0)).trans f0
                  have g1 : w13.cell? ⟨b14, 1, none⟩ = some (.string D) := (hq13.cell (World.block_lt_of_cell? _ _ f1)).trans f1
                  have HR13 := Aside0.mk (HR12.out.below hq13)
                  have HL13 := Aside0.mk (HL12.out.below hq13)
                  have HB13 := Aside0.mk (below_weaken HB12.out HB12.out.size hq13)
                  clear hq13
                  try go_wp2_with (fail)
                  refine hKK.out _ _ ⟨g0, g1⟩ ?_
                  clear hKK KK
                  have hs2 : (fun w' => w'.cell? ⟨b14, 0, none⟩ = some (.int .u64 n) ∧ w'.cell? ⟨b14, 1, none⟩ = some (.string D)) w13 := ⟨g0, g1⟩
                  repeat (first | (refine WS_w rfl hs2 (by rfl) (fun KK hKK => ?_); go_simp; refine hKK _ ?_; clear hKK KK) | (refine WS.s rfl hs2 (by rfl) (fun KK hKK => ?_); go_simp; refine hKK _ ?_; clear hKK KK))
                  refine WS_c rfl (by rfl) (fun KK hKK => ?_)
                  go_simp
                  refine (peaks_calls _ ha _ K n L HR13.out HLN.out).mono ?_
                  rintro e w14 ⟨v14, rfl, hr14, hq14⟩
                  obtain ⟨A14, c14, e14, hcc14, hC14⟩ := Kd.R_reads hr14
                  subst e14
                  have i0 : w14.cell? ⟨b14, 0, none⟩ = some (.int .u64 n) := (hq14.cell (World.block_lt_of_cell? _ _ g0)).trans g0
                  have i1 : w14.cell? ⟨b14, 1, none⟩ = some (.string D) := (hq14.cell (World.block_lt_of_cell? _ _ g1)).trans g1
                  have HR14 := Aside0.mk (HR13.out.below hq14)
                  have HL14 := Aside0.mk (HL13.out.below hq14).C
                  have HC14 := Aside0.mk (And.intro hcc14 hC14)
                  have HB14 := Aside0.mk (below_weaken HB13.out HB13.out.size hq14)
                  clear hr14 hcc14 hC14 hq14
                  try go_wp2_with (fail)
                  refine hKK.out _ _ ⟨i0, i1⟩ ?_
                  clear hKK KK
                  refine WS_c rfl (by rfl) (fun KK hKK => ?_)
                  go_simp
                  refine (massiflaw09_same.calls 1000 A14 c14 L A6 c6 L true _ HC14.out.2 HC14.out.1 HL14.out.2.2 HL14.out.2.1 (massiflaw09_same.is 1000 L (Nat.le_trans HLN.out (by decide)) HLN2.out)).mono ?_
                  rintro e w15 ⟨rfl, hd15⟩
                  have j0 : w15.cell? ⟨b14, 0, none⟩ = some (.int .u64 n) := (hd15.below.cell (World.block_lt_of_cell? _ _ i0)).trans i0
                  have j1 : w15.cell? ⟨b14, 1, none⟩ = some (.string D) := (hd15.below.cell (World.block_lt_of_cell? _ _ i1)).trans i1
                  have HRF := Aside0.mk (HR14.out.below hd15.below)
                  have HBF := Aside0.mk (below_weaken HB14.out HB14.out.size hd15.below)
                  clear hd15
                  try go_wp2_with (fail)
                  refine hKK.out _ _ ⟨j0, j1⟩ ?_
                  clear hKK KK
                  have hs3 : (fun w' => w'.cell? ⟨b14, 0, none⟩ = some (.int .u64 n) ∧ w'.cell? ⟨b14, 1, none⟩ = some (.string D)) w15 := ⟨j0, j1⟩
                  repeat (first | (refine WS_w rfl hs3 (by rfl) (fun KK hKK => ?_); go_simp; refine hKK _ ?_; clear hKK KK) | (refine WS.s rfl hs3 (by rfl) (fun KK hKK => ?_); go_simp; refine hKK _ ?_; clear hKK KK))
                  refine WS.nil ?_
                  clear hs0 hs1 hs2 hs3 e0 e1 f0 f1 g0 g1 i0 i1 j0 j1
                  go_wp2_with (fail)
                  go_roundg k1
                  case measure => exact Nat.lt_succ_self _
                  case rel => exact ⟨x + 1, n, L, _, by go_num, ⟨by have := HI.out; omega⟩, HRF, ⟨HV.out⟩, HOK11, HBF⟩
              have m2 := (z3.2 hov).1
              obtain ⟨m3, m4⟩ := (z3.2 hov).2
              have hE : opE K n (g : Int) s = 0 := by unfold opE; rw [if_neg (by simpa using hsz), if_neg (by simp [hmod]; omega), if_neg (by simpa using hov)]
              clear hsz z2 z3 hmod hov
              as_aux_lemma =>
                have HKS3 := Aside0.mk (sums_u64 n g HV.out.n1 hg)
                have HE := Aside0.mk (show Op.E (Op.mk q yw (g : Int) s false) K n = 0 from by unfold Op.E; rw [htext, hheight]; exact hE)
                have HNL := Aside0.mk (nl_z (Op.mk q yw (g : Int) s false) (L := L) (g := g) HE.out (hheight.trans rfl))
                have DC := Aside0.mk (fun {W : World} (hW : Rg W ha (fun j => ok j ∧ j < wr.heap.size) K n L) => show Calls Try.prog 16 #[.pointer (some ⟨ha, 0, none⟩), .agg #[.int .i64 q, .int .i64 yw, .int .i64 (g : Int), .string s, .bool false], .int .i64 K] W (Does W ha (fun j => ok j ∧ j < wr.heap.size) K n L (Op.mk q yw (g : Int) s false)) from does_calls W ha _ K n L (Op.mk q yw (g : Int) s false) hW HV.out)
                clear hE htext hheight
                have HZ8 := Aside0.mk (show wr.heap.size ≤ w8.heap.size from ?hz8)
                case hz8 => exact HZ8a.out
                go_wp2_with (first | ((with_reducible refine gate_store (t := 39) (x := .tmp 14) (v := .tmp 69) rfl ?_); refine Sha.wpList_store_row' rfl 39 (.tmp 14) (.tmp 69) rfl w8.heap.size rfl #[.int .u64 n, .string D] rfl _ 39 (blk_new _ _) rfl (by kernel_rfl) (one2 n D) ?_; intro w9 hw9; rw [Sha.setRow_new _ _ _ _ _ rfl] at hw9; rw [← hw9] at HW9 HM9; clear hw9; obtain ⟨c0, c1, c2, c3, c4⟩ := HCK.out w9 HW9.out))
                have HRX := Aside0.mk (HR8.out.below HW9.out)
                have HLX := Aside0.mk (HL8.out.below HW9.out)
                have HMX := Aside0.mk (show w9.heap[b14]? = some (.cells #[.int .u64 n, .string D] 39 (0, 0)) from by rw [HZ14.out]; exact HM9.out)
                have HBX := Aside0.mk (below_weaken HB8.out HB8.out.size HW9.out)
                refine (DC.out HRX.out).mono ?_
                intro e w11 hD
                obtain ⟨A11, N11, c11, rfl, hbs, hl, hr, hk⟩ := hD.told
                rw [HE.out]
                have HVD := Aside0.mk (show Inv K (n + 2 ^ g) (Op.L (Op.mk q yw (g : Int) s false) K n L) from by have h := HV.out.does (Op.mk q yw (g : Int) s false); rw [HNL.out.1] at h; exact h)
                obtain ⟨eN, eL, eM⟩ := HNL.out
                rw [eN] at hr
                have hm14 : w11.heap[b14]? = some (.cells #[.int .u64 n, .string D] 39 (0, 0)) := (hk.keep b14 (blkLt HMX.out) (fun h2 => by have := HZ14.out; have := HZ8.out; have := h2.2; omega)).trans HMX.out
                have HB11 := Aside0.mk (Kp.old HBX.out HBX.out.size hk (fun j h => HOK.out j h.1))
                have HR11 := Aside0.mk hr
                have HL11 := Aside0.mk (HLX.out.next (u := .slice A11 N11 c11) hk)
                have HOK11 := Aside0.mk (show ∀ j, nx w9 (fun j => ok j ∧ j < wr.heap.size) (.slice A11 N11 c11) j → w.heap.size ≤ j from fun j h => by have := HBX.out.size; rcases h with h | h; exact HOK.out j h.1.1; omega)
                have e0 : w11.cell? ⟨b14, 0, none⟩ = some (.int .u64 n) := by simp [World.cell?, hm14]
                have e1 : w11.cell? ⟨b14, 1, none⟩ = some (.string D) := by simp [World.cell?, hm14]
                clear hl hk hr hD hbs hm14 eN eL eM
                have HRD := Aside0.mk (show Rg w11.drew ha (nx w9 (fun j => ok j ∧ j < wr.heap.size) (.slice A11 N11 c11)) K ((n + 2 ^ g : Nat) : Int) (Op.L (Op.mk q yw (g : Int) s false) K n L) from HR11.out.step (fun _ _ _ => rfl))
                have HBD := Aside0.mk (below_drew HB11.out)
                go_wp2_with (fail)
                rw [← HZ14.out]
                obtain ⟨k1', k2', k3'⟩ := HKS3.out
                clear m1 m2 m3 m4 z1
                refine region_ws ((0, false) :: (1, false) :: (2, false) :: (3, false) :: (4, false) :: (5, false) :: (6, false) :: (7, false) :: (9, false) :: (8, false) :: (10, false) :: (11, false) :: (12, false) :: (13, false) :: (15, false) :: (14, false) :: (16, false) :: (17, false) :: (18, false) :: (19, false) :: (21, false) :: (20, false) :: (22, false) :: (23, false) :: (24, false) :: (25, false) :: (26, false) :: (27, false) :: (28, false) :: (29, false) :: (30, false) :: (32, false) :: (33, false) :: (34, false) :: (35, false) :: (36, false) :: (31, true) :: (37, false) :: (38, false) :: (39, false) :: []) (fun _ => True) (by kernel_rfl) (by kernel_rfl) (fun _ d _ _ _ h => by cases d <;> exact h) ?_
                repeat (first | (refine WS_w rfl trivial (by rfl) (fun KK hKK => ?_); go_simp; refine hKK _ ?_; clear hKK KK) | (refine WS.s rfl trivial (by rfl) (fun KK hKK => ?_); go_simp; refine hKK _ ?_; clear hKK KK))
                refine WS_c rfl (by rfl) (fun KK hKK => ?_)
                go_simp
                refine (size_calls _ ha _ K _ _ HRD.out).mono ?_
                rintro e w12 ⟨rfl, hb12'⟩
                have HBB := Aside0.mk hb12'
                clear hb12'
                try go_wp2_with (fail)
                refine hKK.out _ _ trivial ?_
                clear hKK KK
                repeat (first | (refine WS_w rfl trivial (by rfl) (fun KK hKK => ?_); go_simp; refine hKK _ ?_; clear hKK KK) | (refine WS.s rfl trivial (by rfl) (fun KK hKK => ?_); go_simp; refine hKK _ ?_; clear hKK KK))
                refine WS.nil ?_
                have HRF := Aside0.mk (HRD.out.below HBB.out)
                have HBF := Aside0.mk (below_weaken HBD.out HBD.out.size HBB.out)
                go_wp2_with (fail)
                go_roundg k1
                case measure => exact Nat.lt_succ_self _
                case rel => exact ⟨x + 1, n + 2 ^ g, _, _, by go_num, ⟨by have := HI.out; omega⟩, HRF, ⟨HVD.out⟩, HOK11, HBF⟩
            · have htext : Op.text (Op.mk q yw h s true) K = (dgt s K.toNat) := by unfold Op.text; simp
              have hheight : Op.height (Op.mk q yw h s true) = h := by unfold Op.height; simp [hq]
              have hsz : (((dgt s K.toNat)).size : Int) = K := by rw [dgt_size]; have := HKI.out; omega
              have q1 : ((((dgt s K.toNat)).size : Int) != K) = false := by simp [hsz]
              by_cases hneg : h < 0
              · have d1 : decide (h < 0) = true := decide_eq_true hneg
                have hE : opE K n h (dgt s K.toNat) = 41 := by unfold opE; rw [if_neg (by simpa using hsz), if_pos (.inl hneg)]
                clear hsz hneg
                as_aux_lemma =>
                  have HE := Aside0.mk (show Op.E (Op.mk q yw h s true) K n = 41 from by unfold Op.E; rw [htext, hheight]; exact hE)
                  have HNL := Aside0.mk (nl_nz (Op.mk q yw h s true) (L := L) HE.out)
                  have DC := Aside0.mk (fun {W : World} (hW : Rg W ha (fun j => ok j ∧ j < wr.heap.size) K n L) => show Calls Try.prog 16 #[.pointer (some ⟨ha, 0, none⟩), .agg #[.int .i64 q, .int .i64 yw, .int .i64 h, .string s, .bool true], .int .i64 K] W (Does W ha (fun j => ok j ∧ j < wr.heap.size) K n L (Op.mk q yw h s true)) from does_calls W ha _ K n L (Op.mk q yw h s true) hW HV.out)
                  clear hE htext hheight
                  have HZ8 := Aside0.mk (show wr.heap.size ≤ w8.heap.size from ?hz8)
                  case hz8 => exact HZ8a.out
                  go_wp2_with (first | ((with_reducible refine gate_store (t := 39) (x := .tmp 14) (v := .tmp 69) rfl ?_); refine Sha.wpList_store_row' rfl 39 (.tmp 14) (.tmp 69) rfl w8.heap.size rfl #[.int .u64 n, .string D] rfl _ 39 (blk_new _ _) rfl (by kernel_rfl) (one2 n D) ?_; intro w9 hw9; rw [Sha.setRow_new _ _ _ _ _ rfl] at hw9; rw [← hw9] at HW9 HM9; clear hw9; obtain ⟨c0, c1, c2, c3, c4⟩ := HCK.out w9 HW9.out))
                  refine (digest_calls w9 s K HKI.out.1 HKI.out.2).mono ?_
                  rintro e w10 ⟨rfl, hb10⟩
                  have HRX := Aside0.mk ((HR8.out.below HW9.out).below hb10)
                  have HLX := Aside0.mk ((HL8.out.below HW9.out).below hb10)
                  have HMX := Aside0.mk (show w10.heap[b14]? = some (.cells #[.int .u64 n, .string D] 39 (0, 0)) from by rw [HZ14.out]; exact blk_below HM9.out hb10)
                  have HBX := Aside0.mk (below_weaken (below_weaken HB8.out HB8.out.size HW9.out) (Nat.le_trans HB8.out.size HW9.out.size) hb10)
                  clear c0 c1 c2 c3 c4
                  obtain ⟨c0, c1, c2, c3, c4⟩ := HCK.out w10 (below_weaken HW9.out HW9.out.size hb10)
                  clear hb10
                  go_wp2_with (fail)
                  refine (DC.out HRX.out).mono ?_
                  intro e w11 hD
                  obtain ⟨A11, N11, c11, rfl, hbs, hl, hr, hk⟩ := hD.told
                  rw [HE.out]
                  obtain ⟨eN, eL, eM⟩ := HNL.out
                  rw [eM] at hl
                  rw [eN, eL] at hr
                  have hm14 : w11.heap[b14]? = some (.cells #[.int .u64 n, .string D] 39 (0, 0)) := (hk.keep b14 (blkLt HMX.out) (fun h2 => by have := HZ14.out; have := HZ8.out; have := h2.2; omega)).trans HMX.out
                  have HB11 := Aside0.mk (Kp.old HBX.out HBX.out.size hk (fun j h => HOK.out j h.1))
                  have HR11 := Aside0.mk hr
                  have HL11 := Aside0.mk (HLX.out.next (u := .slice A11 N11 c11) hk)
                  have HOK11 := Aside0.mk (show ∀ j, nx w10 (fun j => ok j ∧ j < wr.heap.size) (.slice A11 N11 c11) j → w.heap.size ≤ j from fun j h => by have := HBX.out.size; rcases h with h | h; exact HOK.out j h.1.1; omega)
                  have e0 : w11.cell? ⟨b14, 0, none⟩ = some (.int .u64 n) := by simp [World.cell?, hm14]
                  have e1 : w11.cell? ⟨b14, 1, none⟩ = some (.string D) := by simp [World.cell?, hm14]
                  obtain ⟨hN11, _, _⟩ := hl.C
                  have hN11' : N11 = 0 := hN11
                  subst hN11'
                  clear hN11
                  clear hl hk hr hD hbs hm14 eN eL eM
                  have HRD := Aside0.mk (show Rg w11.drew ha (nx w10 (fun j => ok j ∧ j < wr.heap.size) (.slice A11 0 c11)) K (n : Int) L from HR11.out.step (fun _ _ _ => rfl))
                  have HBD := Aside0.mk (below_drew HB11.out)
                  have HLD := Aside0.mk (HL11.out.below (below_drew (Below.refl _ w11)))
                  go_wp2_with (fail)
                  rw [← HZ14.out]
                  have hs0 : (fun w' => w'.cell? ⟨b14, 0, none⟩ = some (.int .u64 n) ∧ w'.cell? ⟨b14, 1, none⟩ = some (.string D)) w11.drew := ⟨e0, e1⟩
                  refine region_ws ((0, false) :: (1, false) :: (2, false) :: (3, false) :: (4, false) :: (5, false) :: (6, false) :: (7, false) :: (9, false) :: (8, true) :: (10, false) :: (11, false) :: (12, false) :: (13, false) :: (15, false) :: (14, true) :: (16, false) :: (17, false) :: (18, false) :: (19, false) :: (21, false) :: (20, true) :: (22, true) :: (23, false) :: (24, false) :: (25, false) :: (26, false) :: (27, false) :: (28, false) :: (29, false) :: (30, false) :: (32, false) :: (33, false) :: (34, false) :: (35, false) :: (36, false) :: (31, false) :: (37, false) :: (38, false) :: (39, false) :: []) (fun w' => w'.cell? ⟨b14, 0, none⟩ = some (.int .u64 n) ∧ w'.cell? ⟨b14, 1, none⟩ = some (.string D)) (by kernel_rfl) (by kernel_rfl) (fun _ d _ _ _ h => by cases d <;> exact h) ?_
                  repeat (first | (refine WS_w rfl hs0 (by rfl) (fun KK hKK => ?_); go_simp; refine hKK _ ?_; clear hKK KK) | (refine WS.s rfl hs0 (by rfl) (fun KK hKK => ?_); go_simp; refine hKK _ ?_; clear hKK KK))
                  refine WS_c rfl (by rfl) (fun KK hKK => ?_)
                  go_simp
                  refine (size_calls _ ha _ K _ _ HRD.out).mono ?_
                  rintro e w12 ⟨rfl, hq12⟩
                  have f0 : w12.cell? ⟨b14, 0, none⟩ = some (.int .u64 n) := (hq12.cell (World.block_lt_of_cell? _ _ e0)).trans e0
                  have f1 : w12.cell? ⟨b14, 1, none⟩ = some (.string D) := (hq12.cell (World.block_lt_of_cell? _ _ e1)).trans e1
                  have HR12 := Aside0.mk (HRD.out.below hq12)
                  have HL12 := Aside0.mk (HLD.out.below hq12)
                  have HB12 := Aside0.mk (below_weaken HBD.out HBD.out.size hq12)
                  clear hq12
                  try go_wp2_with (fail)
                  refine hKK.out _ _ ⟨f0, f1⟩ ?_
                  clear hKK KK
                  have hs1 : (fun w' => w'.cell? ⟨b14, 0, none⟩ = some (.int .u64 n) ∧ w'.cell? ⟨b14, 1, none⟩ = some (.string D)) w12 := ⟨f0, f1⟩
                  repeat (first | (refine WS_w rfl hs1 (by rfl) (fun KK hKK => ?_); go_simp; refine hKK _ ?_; clear hKK KK) | (refine WS.s rfl hs1 (by rfl) (fun KK hKK => ?_); go_simp; refine hKK _ ?_; clear hKK KK))
                  refine WS.l (.agg #[.int .u64 n, .string D]) rfl hs1 (by rfl) (fun w0 hSw => ?_) (fun KK hKK => ?_)
                  · (obtain ⟨o0, o1⟩ := hSw; clear e0 e1 f0 f1 hs0 hs1; go_simp; try rfl)
                  go_simp
                  refine hKK _ ?_
                  clear hKK KK
                  refine WS_c rfl (by rfl) (fun KK hKK => ?_)
                  go_simp
                  refine (root_calls 100 _ ha _ K n L D HR12.out HRT.out).mono ?_
                  rintro e w13 ⟨rfl, hq13⟩
                  have g0 : w13.cell? ⟨b14, 0, none⟩ = some (.int .u64 n) := (hq13.cell (World.block_lt_of_cell? _ _ f0)).trans f0
                  have g1 : w13.cell? ⟨b14, 1, none⟩ = some (.string D) := (hq13.cell (World.block_lt_of_cell? _ _ f1)).trans f1
                  have HR13 := Aside0.mk (HR12.out.below hq13)
                  have HL13 := Aside0.mk (HL12.out.below hq13)
                  have HB13 := Aside0.mk (below_weaken HB12.out HB12.out.size hq13)
                  clear hq13
                  try go_wp2_with (fail)
                  refine hKK.out _ _ ⟨g0, g1⟩ ?_
                  clear hKK KK
                  have hs2 : (fun w' => w'.cell? ⟨b14, 0, none⟩ = some (.int .u64 n) ∧ w'.cell? ⟨b14, 1, none⟩ = some (.string D)) w13 := ⟨g0, g1⟩
                  repeat (first | (refine WS_w rfl hs2 (by rfl) (fun KK hKK => ?_); go_simp; refine hKK _ ?_; clear hKK KK) | (refine WS.s rfl hs2 (by rfl) (fun KK hKK => ?_); go_simp; refine hKK _ ?_; clear hKK KK))
                  refine WS_c rfl (by rfl) (fun KK hKK => ?_)
                  go_simp
                  refine (peaks_calls _ ha _ K n L HR13.out HLN.out).mono ?_
                  rintro e w14 ⟨v14, rfl, hr14, hq14⟩
                  obtain ⟨A14, c14, e14, hcc14, hC14⟩ := Kd.R_reads hr14
                  subst e14
                  have i0 : w14.cell? ⟨b14, 0, none⟩ = some (.int .u64 n) := (hq14.cell (World.block_lt_of_cell? _ _ g0)).trans g0
                  have i1 : w14.cell? ⟨b14, 1, none⟩ = some (.string D) := (hq14.cell (World.block_lt_of_cell? _ _ g1)).trans g1
                  have HR14 := Aside0.mk (HR13.out.below hq14)
                  have HL14 := Aside0.mk (HL13.out.below hq14).C
                  have HC14 := Aside0.mk (And.intro hcc14 hC14)
                  have HB14 := Aside0.mk (below_weaken HB13.out HB13.out.size hq14)
                  clear hr14 hcc14 hC14 hq14
                  try go_wp2_with (fail)
                  refine hKK.out _ _ ⟨i0, i1⟩ ?_
                  clear hKK KK
                  refine WS_c rfl (by rfl) (fun KK hKK => ?_)
                  go_simp
                  refine (massiflaw09_same.calls 1000 A14 c14 L A6 c6 L true _ HC14.out.2 HC14.out.1 HL14.out.2.2 HL14.out.2.1 (massiflaw09_same.is 1000 L (Nat.le_trans HLN.out (by decide)) HLN2.out)).mono ?_
                  rintro e w15 ⟨rfl, hd15⟩
                  have j0 : w15.cell? ⟨b14, 0, none⟩ = some (.int .u64 n) := (hd15.below.cell (World.block_lt_of_cell? _ _ i0)).trans i0
                  have j1 : w15.cell? ⟨b14, 1, none⟩ = some (.string D) := (hd15.below.cell (World.block_lt_of_cell? _ _ i1)).trans i1
                  have HRF := Aside0.mk (HR14.out.below hd15.below)
                  have HBF := Aside0.mk (below_weaken HB14.out HB14.out.size hd15.below)
                  clear hd15
                  try go_wp2_with (fail)
                  refine hKK.out _ _ ⟨j0, j1⟩ ?_
                  clear hKK KK
                  have hs3 : (fun w' => w'.cell? ⟨b14, 0, none⟩ = some (.int .u64 n) ∧ w'.cell? ⟨b14, 1, none⟩ = some (.string D)) w15 := ⟨j0, j1⟩
                  repeat (first | (refine WS_w rfl hs3 (by rfl) (fun KK hKK => ?_); go_simp; refine hKK _ ?_; clear hKK KK) | (refine WS.s rfl hs3 (by rfl) (fun KK hKK => ?_); go_simp; refine hKK _ ?_; clear hKK KK))
                  refine WS.nil ?_
                  clear hs0 hs1 hs2 hs3 e0 e1 f0 f1 g0 g1 i0 i1 j0 j1
                  go_wp2_with (fail)
                  go_roundg k1
                  case measure => exact Nat.lt_succ_self _
                  case rel => exact ⟨x + 1, n, L, _, by go_num, ⟨by have := HI.out; omega⟩, HRF, ⟨HV.out⟩, HOK11, HBF⟩
              have d1 : decide (h < 0) = false := decide_eq_false hneg
              by_cases hbig : 40 < h
              · have d2 : decide (40 < h) = true := decide_eq_true hbig
                have hE : opE K n h (dgt s K.toNat) = 41 := by unfold opE; rw [if_neg (by simpa using hsz), if_pos (.inr (.inl hbig))]
                clear hsz hneg hbig
                as_aux_lemma =>
                  have HE := Aside0.mk (show Op.E (Op.mk q yw h s true) K n = 41 from by unfold Op.E; rw [htext, hheight]; exact hE)
                  have HNL := Aside0.mk (nl_nz (Op.mk q yw h s true) (L := L) HE.out)
                  have DC := Aside0.mk (fun {W : World} (hW : Rg W ha (fun j => ok j ∧ j < wr.heap.size) K n L) => show Calls Try.prog 16 #[.pointer (some ⟨ha, 0, none⟩), .agg #[.int .i64 q, .int .i64 yw, .int .i64 h, .string s, .bool true], .int .i64 K] W (Does W ha (fun j => ok j ∧ j < wr.heap.size) K n L (Op.mk q yw h s true)) from does_calls W ha _ K n L (Op.mk q yw h s true) hW HV.out)
                  clear hE htext hheight
                  have HZ8 := Aside0.mk (show wr.heap.size ≤ w8.heap.size from ?hz8)
                  case hz8 => exact HZ8a.out
                  go_wp2_with (first | ((with_reducible refine gate_store (t := 39) (x := .tmp 14) (v := .tmp 69) rfl ?_); refine Sha.wpList_store_row' rfl 39 (.tmp 14) (.tmp 69) rfl w8.heap.size rfl #[.int .u64 n, .string D] rfl _ 39 (blk_new _ _) rfl (by kernel_rfl) (one2 n D) ?_; intro w9 hw9; rw [Sha.setRow_new _ _ _ _ _ rfl] at hw9; rw [← hw9] at HW9 HM9; clear hw9; obtain ⟨c0, c1, c2, c3, c4⟩ := HCK.out w9 HW9.out))
                  refine (digest_calls w9 s K HKI.out.1 HKI.out.2).mono ?_
                  rintro e w10 ⟨rfl, hb10⟩
                  have HRX := Aside0.mk ((HR8.out.below HW9.out).below hb10)
                  have HLX := Aside0.mk ((HL8.out.below HW9.out).below hb10)
                  have HMX := Aside0.mk (show w10.heap[b14]? = some (.cells #[.int .u64 n, .string D] 39 (0, 0)) from by rw [HZ14.out]; exact blk_below HM9.out hb10)
                  have HBX := Aside0.mk (below_weaken (below_weaken HB8.out HB8.out.size HW9.out) (Nat.le_trans HB8.out.size HW9.out.size) hb10)
                  clear c0 c1 c2 c3 c4
                  obtain ⟨c0, c1, c2, c3, c4⟩ := HCK.out w10 (below_weaken HW9.out HW9.out.size hb10)
                  clear hb10
                  go_wp2_with (fail)
                  refine (DC.out HRX.out).mono ?_
                  intro e w11 hD
                  obtain ⟨A11, N11, c11, rfl, hbs, hl, hr, hk⟩ := hD.told
                  rw [HE.out]
                  obtain ⟨eN, eL, eM⟩ := HNL.out
                  rw [eM] at hl
                  rw [eN, eL] at hr
                  have hm14 : w11.heap[b14]? = some (.cells #[.int .u64 n, .string D] 39 (0, 0)) := (hk.keep b14 (blkLt HMX.out) (fun h2 => by have := HZ14.out; have := HZ8.out; have := h2.2; omega)).trans HMX.out
                  have HB11 := Aside0.mk (Kp.old HBX.out HBX.out.size hk (fun j h => HOK.out j h.1))
                  have HR11 := Aside0.mk hr
                  have HL11 := Aside0.mk (HLX.out.next (u := .slice A11 N11 c11) hk)
                  have HOK11 := Aside0.mk (show ∀ j, nx w10 (fun j => ok j ∧ j < wr.heap.size) (.slice A11 N11 c11) j → w.heap.size ≤ j from fun j h => by have := HBX.out.size; rcases h with h | h; exact HOK.out j h.1.1; omega)
                  have e0 : w11.cell? ⟨b14, 0, none⟩ = some (.int .u64 n) := by simp [World.cell?, hm14]
                  have e1 : w11.cell? ⟨b14, 1, none⟩ = some (.string D) := by simp [World.cell?, hm14]
                  obtain ⟨hN11, _, _⟩ := hl.C
                  have hN11' : N11 = 0 := hN11
                  subst hN11'
                  clear hN11
                  clear hl hk hr hD hbs hm14 eN eL eM
                  have HRD := Aside0.mk (show Rg w11.drew ha (nx w10 (fun j => ok j ∧ j < wr.heap.size) (.slice A11 0 c11)) K (n : Int) L from HR11.out.step (fun _ _ _ => rfl))
                  have HBD := Aside0.mk (below_drew HB11.out)
                  have HLD := Aside0.mk (HL11.out.below (below_drew (Below.refl _ w11)))
                  go_wp2_with (fail)
                  rw [← HZ14.out]
                  have hs0 : (fun w' => w'.cell? ⟨b14, 0, none⟩ = some (.int .u64 n) ∧ w'.cell? ⟨b14, 1, none⟩ = some (.string D)) w11.drew := ⟨e0, e1⟩
                  refine region_ws ((0, false) :: (1, false) :: (2, false) :: (3, false) :: (4, false) :: (5, false) :: (6, false) :: (7, false) :: (9, false) :: (8, true) :: (10, false) :: (11, false) :: (12, false) :: (13, false) :: (15, false) :: (14, true) :: (16, false) :: (17, false) :: (18, false) :: (19, false) :: (21, false) :: (20, true) :: (22, true) :: (23, false) :: (24, false) :: (25, false) :: (26, false) :: (27, false) :: (28, false) :: (29, false) :: (30, false) :: (32, false) :: (33, false) :: (34, false) :: (35, false) :: (36, false) :: (31, false) :: (37, false) :: (38, false) :: (39, false) :: []) (fun w' => w'.cell? ⟨b14, 0, none⟩ = some (.int .u64 n) ∧ w'.cell? ⟨b14, 1, none⟩ = some (.string D)) (by kernel_rfl) (by kernel_rfl) (fun _ d _ _ _ h => by cases d <;> exact h) ?_
                  repeat (first | (refine WS_w rfl hs0 (by rfl) (fun KK hKK => ?_); go_simp; refine hKK _ ?_; clear hKK KK) | (refine WS.s rfl hs0 (by rfl) (fun KK hKK => ?_); go_simp; refine hKK _ ?_; clear hKK KK))
                  refine WS_c rfl (by rfl) (fun KK hKK => ?_)
                  go_simp
                  refine (size_calls _ ha _ K _ _ HRD.out).mono ?_
                  rintro e w12 ⟨rfl, hq12⟩
                  have f0 : w12.cell? ⟨b14, 0, none⟩ = some (.int .u64 n) := (hq12.cell (World.block_lt_of_cell? _ _ e0)).trans e0
                  have f1 : w12.cell? ⟨b14, 1, none⟩ = some (.string D) := (hq12.cell (World.block_lt_of_cell? _ _ e1)).trans e1
                  have HR12 := Aside0.mk (HRD.out.below hq12)
                  have HL12 := Aside0.mk (HLD.out.below hq12)
                  have HB12 := Aside0.mk (below_weaken HBD.out HBD.out.size hq12)
                  clear hq12
                  try go_wp2_with (fail)
                  refine hKK.out _ _ ⟨f0, f1⟩ ?_
                  clear hKK KK
                  have hs1 : (fun w' => w'.cell? ⟨b14, 0, none⟩ = some (.int .u64 n) ∧ w'.cell? ⟨b14, 1, none⟩ = some (.string D)) w12 := ⟨f0, f1⟩
                  repeat (first | (refine WS_w rfl hs1 (by rfl) (fun KK hKK => ?_); go_simp; refine hKK _ ?_; clear hKK KK) | (refine WS.s rfl hs1 (by rfl) (fun KK hKK => ?_); go_simp; refine hKK _ ?_; clear hKK KK))
                  refine WS.l (.agg #[.int .u64 n, .string D]) rfl hs1 (by rfl) (fun w0 hSw => ?_) (fun KK hKK => ?_)
                  · (obtain ⟨o0, o1⟩ := hSw; clear e0 e1 f0 f1 hs0 hs1; go_simp; try rfl)
                  go_simp
                  refine hKK _ ?_
                  clear hKK KK
                  refine WS_c rfl (by rfl) (fun KK hKK => ?_)
                  go_simp
                  refine (root_calls 100 _ ha _ K n L D HR12.out HRT.out).mono ?_
                  rintro e w13 ⟨rfl, hq13⟩
                  have g0 : w13.cell? ⟨b14, 0, none⟩ = some (.int .u64 n) := (hq13.cell (World.block_lt_of_cell? _ _ f0)).trans f0
                  have g1 : w13.cell? ⟨b14, 1, none⟩ = some (.string D) := (hq13.cell (World.block_lt_of_cell? _ _ f1)).trans f1
                  have HR13 := Aside0.mk (HR12.out.below hq13)
                  have HL13 := Aside0.mk (HL12.out.below hq13)
                  have HB13 := Aside0.mk (below_weaken HB12.out HB12.out.size hq13)
                  clear hq13
                  try go_wp2_with (fail)
                  refine hKK.out _ _ ⟨g0, g1⟩ ?_
                  clear hKK KK
                  have hs2 : (fun w' => w'.cell? ⟨b14, 0, none⟩ = some (.int .u64 n) ∧ w'.cell? ⟨b14, 1, none⟩ = some (.string D)) w13 := ⟨g0, g1⟩
                  repeat (first | (refine WS_w rfl hs2 (by rfl) (fun KK hKK => ?_); go_simp; refine hKK _ ?_; clear hKK KK) | (refine WS.s rfl hs2 (by rfl) (fun KK hKK => ?_); go_simp; refine hKK _ ?_; clear hKK KK))
                  refine WS_c rfl (by rfl) (fun KK hKK => ?_)
                  go_simp
                  refine (peaks_calls _ ha _ K n L HR13.out HLN.out).mono ?_
                  rintro e w14 ⟨v14, rfl, hr14, hq14⟩
                  obtain ⟨A14, c14, e14, hcc14, hC14⟩ := Kd.R_reads hr14
                  subst e14
                  have i0 : w14.cell? ⟨b14, 0, none⟩ = some (.int .u64 n) := (hq14.cell (World.block_lt_of_cell? _ _ g0)).trans g0
                  have i1 : w14.cell? ⟨b14, 1, none⟩ = some (.string D) := (hq14.cell (World.block_lt_of_cell? _ _ g1)).trans g1
                  have HR14 := Aside0.mk (HR13.out.below hq14)
                  have HL14 := Aside0.mk (HL13.out.below hq14).C
                  have HC14 := Aside0.mk (And.intro hcc14 hC14)
                  have HB14 := Aside0.mk (below_weaken HB13.out HB13.out.size hq14)
                  clear hr14 hcc14 hC14 hq14
                  try go_wp2_with (fail)
                  refine hKK.out _ _ ⟨i0, i1⟩ ?_
                  clear hKK KK
                  refine WS_c rfl (by rfl) (fun KK hKK => ?_)
                  go_simp
                  refine (massiflaw09_same.calls 1000 A14 c14 L A6 c6 L true _ HC14.out.2 HC14.out.1 HL14.out.2.2 HL14.out.2.1 (massiflaw09_same.is 1000 L (Nat.le_trans HLN.out (by decide)) HLN2.out)).mono ?_
                  rintro e w15 ⟨rfl, hd15⟩
                  have j0 : w15.cell? ⟨b14, 0, none⟩ = some (.int .u64 n) := (hd15.below.cell (World.block_lt_of_cell? _ _ i0)).trans i0
                  have j1 : w15.cell? ⟨b14, 1, none⟩ = some (.string D) := (hd15.below.cell (World.block_lt_of_cell? _ _ i1)).trans i1
                  have HRF := Aside0.mk (HR14.out.below hd15.below)
                  have HBF := Aside0.mk (below_weaken HB14.out HB14.out.size hd15.below)
                  clear hd15
                  try go_wp2_with (fail)
                  refine hKK.out _ _ ⟨j0, j1⟩ ?_
                  clear hKK KK
                  have hs3 : (fun w' => w'.cell? ⟨b14, 0, none⟩ = some (.int .u64 n) ∧ w'.cell? ⟨b14, 1, none⟩ = some (.string D)) w15 := ⟨j0, j1⟩
                  repeat (first | (refine WS_w rfl hs3 (by rfl) (fun KK hKK => ?_); go_simp; refine hKK _ ?_; clear hKK KK) | (refine WS.s rfl hs3 (by rfl) (fun KK hKK => ?_); go_simp; refine hKK _ ?_; clear hKK KK))
                  refine WS.nil ?_
                  clear hs0 hs1 hs2 hs3 e0 e1 f0 f1 g0 g1 i0 i1 j0 j1
                  go_wp2_with (fail)
                  go_roundg k1
                  case measure => exact Nat.lt_succ_self _
                  case rel => exact ⟨x + 1, n, L, _, by go_num, ⟨by have := HI.out; omega⟩, HRF, ⟨HV.out⟩, HOK11, HBF⟩
              have d2 : decide (40 < h) = false := decide_eq_false hbig
              obtain ⟨g, rfl⟩ : ∃ g : Nat, h = g := ⟨h.toNat, by omega⟩
              have hg : g ≤ 40 := by omega
              clear hneg hbig
              obtain ⟨z1, z2, z3⟩ := tests_u64 n g HV.out.n1 hg
              by_cases hmod : n % 2 ^ g = 0
              rotate_left
              · have m1 := z2.1 hmod
                have hE : opE K n (g : Int) (dgt s K.toNat) = 41 := by unfold opE; rw [if_neg (by simpa using hsz), if_pos (.inr (.inr (by simpa using hmod)))]
                clear hsz z2 z3 hmod
                as_aux_lemma =>
                  have HE := Aside0.mk (show Op.E (Op.mk q yw (g : Int) s true) K n = 41 from by unfold Op.E; rw [htext, hheight]; exact hE)
                  have HNL := Aside0.mk (nl_nz (Op.mk q yw (g : Int) s true) (L := L) HE.out)
                  have DC := Aside0.mk (fun {W : World} (hW : Rg W ha (fun j => ok j ∧ j < wr.heap.size) K n L) => show Calls Try.prog 16 #[.pointer (some ⟨ha, 0, none⟩), .agg #[.int .i64 q, .int .i64 yw, .int .i64 (g : Int), .string s, .bool true], .int .i64 K] W (Does W ha (fun j => ok j ∧ j < wr.heap.size) K n L (Op.mk q yw (g : Int) s true)) from does_calls W ha _ K n L (Op.mk q yw (g : Int) s true) hW HV.out)
                  clear hE htext hheight
                  have HZ8 := Aside0.mk (show wr.heap.size ≤ w8.heap.size from ?hz8)
                  case hz8 => exact HZ8a.out
                  go_wp2_with (first | ((with_reducible refine gate_store (t := 39) (x := .tmp 14) (v := .tmp 69) rfl ?_); refine Sha.wpList_store_row' rfl 39 (.tmp 14) (.tmp 69) rfl w8.heap.size rfl #[.int .u64 n, .string D] rfl _ 39 (blk_new _ _) rfl (by kernel_rfl) (one2 n D) ?_; intro w9 hw9; rw [Sha.setRow_new _ _ _ _ _ rfl] at hw9; rw [← hw9] at HW9 HM9; clear hw9; obtain ⟨c0, c1, c2, c3, c4⟩ := HCK.out w9 HW9.out))
                  refine (digest_calls w9 s K HKI.out.1 HKI.out.2).mono ?_
                  rintro e w10 ⟨rfl, hb10⟩
                  have HRX := Aside0.mk ((HR8.out.below HW9.out).below hb10)
                  have HLX := Aside0.mk ((HL8.out.below HW9.out).below hb10)
                  have HMX := Aside0.mk (show w10.heap[b14]? = some (.cells #[.int .u64 n, .string D] 39 (0, 0)) from by rw [HZ14.out]; exact blk_below HM9.out hb10)
                  have HBX := Aside0.mk (below_weaken (below_weaken HB8.out HB8.out.size HW9.out) (Nat.le_trans HB8.out.size HW9.out.size) hb10)
                  clear c0 c1 c2 c3 c4
                  obtain ⟨c0, c1, c2, c3, c4⟩ := HCK.out w10 (below_weaken HW9.out HW9.out.size hb10)
                  clear hb10
                  go_wp2_with (fail)
                  refine (DC.out HRX.out).mono ?_
                  intro e w11 hD
                  obtain ⟨A11, N11, c11, rfl, hbs, hl, hr, hk⟩ := hD.told
                  rw [HE.out]
                  obtain ⟨eN, eL, eM⟩ := HNL.out
                  rw [eM] at hl
                  rw [eN, eL] at hr
                  have hm14 : w11.heap[b14]? = some (.cells #[.int .u64 n, .string D] 39 (0, 0)) := (hk.keep b14 (blkLt HMX.out) (fun h2 => by have := HZ14.out; have := HZ8.out; have := h2.2; omega)).trans HMX.out
                  have HB11 := Aside0.mk (Kp.old HBX.out HBX.out.size hk (fun j h => HOK.out j h.1))
                  have HR11 := Aside0.mk hr
                  have HL11 := Aside0.mk (HLX.out.next (u := .slice A11 N11 c11) hk)
                  have HOK11 := Aside0.mk (show ∀ j, nx w10 (fun j => ok j ∧ j < wr.heap.size) (.slice A11 N11 c11) j → w.heap.size ≤ j from fun j h => by have := HBX.out.size; rcases h with h | h; exact HOK.out j h.1.1; omega)
                  have e0 : w11.cell? ⟨b14, 0, none⟩ = some (.int .u64 n) := by simp [World.cell?, hm14]
                  have e1 : w11.cell? ⟨b14, 1, none⟩ = some (.string D) := by simp [World.cell?, hm14]
                  obtain ⟨hN11, _, _⟩ := hl.C
                  have hN11' : N11 = 0 := hN11
                  subst hN11'
                  clear hN11
                  clear hl hk hr hD hbs hm14 eN eL eM
                  have HRD := Aside0.mk (show Rg w11.drew ha (nx w10 (fun j => ok j ∧ j < wr.heap.size) (.slice A11 0 c11)) K (n : Int) L from HR11.out.step (fun _ _ _ => rfl))
                  have HBD := Aside0.mk (below_drew HB11.out)
                  have HLD := Aside0.mk (HL11.out.below (below_drew (Below.refl _ w11)))
                  go_wp2_with (fail)
                  rw [← HZ14.out]
                  have hs0 : (fun w' => w'.cell? ⟨b14, 0, none⟩ = some (.int .u64 n) ∧ w'.cell? ⟨b14, 1, none⟩ = some (.string D)) w11.drew := ⟨e0, e1⟩
                  refine region_ws ((0, false) :: (1, false) :: (2, false) :: (3, false) :: (4, false) :: (5, false) :: (6, false) :: (7, false) :: (9, false) :: (8, true) :: (10, false) :: (11, false) :: (12, false) :: (13, false) :: (15, false) :: (14, true) :: (16, false) :: (17, false) :: (18, false) :: (19, false) :: (21, false) :: (20, true) :: (22, true) :: (23, false) :: (24, false) :: (25, false) :: (26, false) :: (27, false) :: (28, false) :: (29, false) :: (30, false) :: (32, false) :: (33, false) :: (34, false) :: (35, false) :: (36, false) :: (31, false) :: (37, false) :: (38, false) :: (39, false) :: []) (fun w' => w'.cell? ⟨b14, 0, none⟩ = some (.int .u64 n) ∧ w'.cell? ⟨b14, 1, none⟩ = some (.string D)) (by kernel_rfl) (by kernel_rfl) (fun _ d _ _ _ h => by cases d <;> exact h) ?_
                  repeat (first | (refine WS_w rfl hs0 (by rfl) (fun KK hKK => ?_); go_simp; refine hKK _ ?_; clear hKK KK) | (refine WS.s rfl hs0 (by rfl) (fun KK hKK => ?_); go_simp; refine hKK _ ?_; clear hKK KK))
                  refine WS_c rfl (by rfl) (fun KK hKK => ?_)
                  go_simp
                  refine (size_calls _ ha _ K _ _ HRD.out).mono ?_
                  rintro e w12 ⟨rfl, hq12⟩
                  have f0 : w12.cell? ⟨b14, 0, none⟩ = some (.int .u64 n) := (hq12.cell (World.block_lt_of_cell? _ _ e0)).trans e0
                  have f1 : w12.cell? ⟨b14, 1, none⟩ = some (.string D) := (hq12.cell (World.block_lt_of_cell? _ _ e1)).trans e1
                  have HR12 := Aside0.mk (HRD.out.below hq12)
                  have HL12 := Aside0.mk (HLD.out.below hq12)
                  have HB12 := Aside0.mk (below_weaken HBD.out HBD.out.size hq12)
                  clear hq12
                  try go_wp2_with (fail)
                  refine hKK.out _ _ ⟨f0, f1⟩ ?_
                  clear hKK KK
                  have hs1 : (fun w' => w'.cell? ⟨b14, 0, none⟩ = some (.int .u64 n) ∧ w'.cell? ⟨b14, 1, none⟩ = some (.string D)) w12 := ⟨f0, f1⟩
                  repeat (first | (refine WS_w rfl hs1 (by rfl) (fun KK hKK => ?_); go_simp; refine hKK _ ?_; clear hKK KK) | (refine WS.s rfl hs1 (by rfl) (fun KK hKK => ?_); go_simp; refine hKK _ ?_; clear hKK KK))
                  refine WS.l (.agg #[.int .u64 n, .string D]) rfl hs1 (by rfl) (fun w0 hSw => ?_) (fun KK hKK => ?_)
                  · (obtain ⟨o0, o1⟩ := hSw; clear e0 e1 f0 f1 hs0 hs1; go_simp; try rfl)
                  go_simp
                  refine hKK _ ?_
                  clear hKK KK
                  refine WS_c rfl (by rfl) (fun KK hKK => ?_)
                  go_simp
                  refine (root_calls 100 _ ha _ K n L D HR12.out HRT.out).mono ?_
                  rintro e w13 ⟨rfl, hq13⟩
                  have g0 : w13.cell? ⟨b14, 0, none⟩ = some (.int .u64 n) := (hq13.cell (World.block_lt_of_cell? _ _ f0)).trans f0
                  have g1 : w13.cell? ⟨b14, 1, none⟩ = some (.string D) := (hq13.cell (World.block_lt_of_cell? _ _ f1)).trans f1
                  have HR13 := Aside0.mk (HR12.out.below hq13)
                  have HL13 := Aside0.mk (HL12.out.below hq13)
                  have HB13 := Aside0.mk (below_weaken HB12.out HB12.out.size hq13)
                  clear hq13
                  try go_wp2_with (fail)
                  refine hKK.out _ _ ⟨g0, g1⟩ ?_
                  clear hKK KK
                  have hs2 : (fun w' => w'.cell? ⟨b14, 0, none⟩ = some (.int .u64 n) ∧ w'.cell? ⟨b14, 1, none⟩ = some (.string D)) w13 := ⟨g0, g1⟩
                  repeat (first | (refine WS_w rfl hs2 (by rfl) (fun KK hKK => ?_); go_simp; refine hKK _ ?_; clear hKK KK) | (refine WS.s rfl hs2 (by rfl) (fun KK hKK => ?_); go_simp; refine hKK _ ?_; clear hKK KK))
                  refine WS_c rfl (by rfl) (fun KK hKK => ?_)
                  go_simp
                  refine (peaks_calls _ ha _ K n L HR13.out HLN.out).mono ?_
                  rintro e w14 ⟨v14, rfl, hr14, hq14⟩
                  obtain ⟨A14, c14, e14, hcc14, hC14⟩ := Kd.R_reads hr14
                  subst e14
                  have i0 : w14.cell? ⟨b14, 0, none⟩ = some (.int .u64 n) := (hq14.cell (World.block_lt_of_cell? _ _ g0)).trans g0
                  have i1 : w14.cell? ⟨b14, 1, none⟩ = some (.string D) := (hq14.cell (World.block_lt_of_cell? _ _ g1)).trans g1
                  have HR14 := Aside0.mk (HR13.out.below hq14)
                  have HL14 := Aside0.mk (HL13.out.below hq14).C
                  have HC14 := Aside0.mk (And.intro hcc14 hC14)
                  have HB14 := Aside0.mk (below_weaken HB13.out HB13.out.size hq14)
                  clear hr14 hcc14 hC14 hq14
                  try go_wp2_with (fail)
                  refine hKK.out _ _ ⟨i0, i1⟩ ?_
                  clear hKK KK
                  refine WS_c rfl (by rfl) (fun KK hKK => ?_)
                  go_simp
                  refine (massiflaw09_same.calls 1000 A14 c14 L A6 c6 L true _ HC14.out.2 HC14.out.1 HL14.out.2.2 HL14.out.2.1 (massiflaw09_same.is 1000 L (Nat.le_trans HLN.out (by decide)) HLN2.out)).mono ?_
                  rintro e w15 ⟨rfl, hd15⟩
                  have j0 : w15.cell? ⟨b14, 0, none⟩ = some (.int .u64 n) := (hd15.below.cell (World.block_lt_of_cell? _ _ i0)).trans i0
                  have j1 : w15.cell? ⟨b14, 1, none⟩ = some (.string D) := (hd15.below.cell (World.block_lt_of_cell? _ _ i1)).trans i1
                  have HRF := Aside0.mk (HR14.out.below hd15.below)
                  have HBF := Aside0.mk (below_weaken HB14.out HB14.out.size hd15.below)
                  clear hd15
                  try go_wp2_with (fail)
                  refine hKK.out _ _ ⟨j0, j1⟩ ?_
                  clear hKK KK
                  have hs3 : (fun w' => w'.cell? ⟨b14, 0, none⟩ = some (.int .u64 n) ∧ w'.cell? ⟨b14, 1, none⟩ = some (.string D)) w15 := ⟨j0, j1⟩
                  repeat (first | (refine WS_w rfl hs3 (by rfl) (fun KK hKK => ?_); go_simp; refine hKK _ ?_; clear hKK KK) | (refine WS.s rfl hs3 (by rfl) (fun KK hKK => ?_); go_simp; refine hKK _ ?_; clear hKK KK))
                  refine WS.nil ?_
                  clear hs0 hs1 hs2 hs3 e0 e1 f0 f1 g0 g1 i0 i1 j0 j1
                  go_wp2_with (fail)
                  go_roundg k1
                  case measure => exact Nat.lt_succ_self _
                  case rel => exact ⟨x + 1, n, L, _, by go_num, ⟨by have := HI.out; omega⟩, HRF, ⟨HV.out⟩, HOK11, HBF⟩
              have m1 := z2.2 hmod
              by_cases hov : 2 ^ 40 < n + 2 ^ g
              · have m2 := z3.1 hov
                have hE : opE K n (g : Int) (dgt s K.toNat) = 30 := by unfold opE; rw [if_neg (by simpa using hsz), if_neg (by simp [hmod]; omega), if_pos (by simpa using hov)]
                clear hsz z2 z3 hmod hov
                as_aux_lemma =>
                  have HE := Aside0.mk (show Op.E (Op.mk q yw (g : Int) s true) K n = 30 from by unfold Op.E; rw [htext, hheight]; exact hE)
                  have HNL := Aside0.mk (nl_nz (Op.mk q yw (g : Int) s true) (L := L) HE.out)
                  have DC := Aside0.mk (fun {W : World} (hW : Rg W ha (fun j => ok j ∧ j < wr.heap.size) K n L) => show Calls Try.prog 16 #[.pointer (some ⟨ha, 0, none⟩), .agg #[.int .i64 q, .int .i64 yw, .int .i64 (g : Int), .string s, .bool true], .int .i64 K] W (Does W ha (fun j => ok j ∧ j < wr.heap.size) K n L (Op.mk q yw (g : Int) s true)) from does_calls W ha _ K n L (Op.mk q yw (g : Int) s true) hW HV.out)
                  clear hE htext hheight
                  have HZ8 := Aside0.mk (show wr.heap.size ≤ w8.heap.size from ?hz8)
                  case hz8 => exact HZ8a.out
                  go_wp2_with (first | ((with_reducible refine gate_store (t := 39) (x := .tmp 14) (v := .tmp 69) rfl ?_); refine Sha.wpList_store_row' rfl 39 (.tmp 14) (.tmp 69) rfl w8.heap.size rfl #[.int .u64 n, .string D] rfl _ 39 (blk_new _ _) rfl (by kernel_rfl) (one2 n D) ?_; intro w9 hw9; rw [Sha.setRow_new _ _ _ _ _ rfl] at hw9; rw [← hw9] at HW9 HM9; clear hw9; obtain ⟨c0, c1, c2, c3, c4⟩ := HCK.out w9 HW9.out))
                  refine (digest_calls w9 s K HKI.out.1 HKI.out.2).mono ?_
                  rintro e w10 ⟨rfl, hb10⟩
                  have HRX := Aside0.mk ((HR8.out.below HW9.out).below hb10)
                  have HLX := Aside0.mk ((HL8.out.below HW9.out).below hb10)
                  have HMX := Aside0.mk (show w10.heap[b14]? = some (.cells #[.int .u64 n, .string D] 39 (0, 0)) from by rw [HZ14.out]; exact blk_below HM9.out hb10)
                  have HBX := Aside0.mk (below_weaken (below_weaken HB8.out HB8.out.size HW9.out) (Nat.le_trans HB8.out.size HW9.out.size) hb10)
                  clear c0 c1 c2 c3 c4
                  obtain ⟨c0, c1, c2, c3, c4⟩ := HCK.out w10 (below_weaken HW9.out HW9.out.size hb10)
                  clear hb10
                  go_wp2_with (fail)
                  refine (DC.out HRX.out).mono ?_
                  intro e w11 hD
                  obtain ⟨A11, N11, c11, rfl, hbs, hl, hr, hk⟩ := hD.told
                  rw [HE.out]
                  obtain ⟨eN, eL, eM⟩ := HNL.out
                  rw [eM] at hl
                  rw [eN, eL] at hr
                  have hm14 : w11.heap[b14]? = some (.cells #[.int .u64 n, .string D] 39 (0, 0)) := (hk.keep b14 (blkLt HMX.out) (fun h2 => by have := HZ14.out; have := HZ8.out; have := h2.2; omega)).trans HMX.out
                  have HB11 := Aside0.mk (Kp.old HBX.out HBX.out.size hk (fun j h => HOK.out j h.1))
                  have HR11 := Aside0.mk hr
                  have HL11 := Aside0.mk (HLX.out.next (u := .slice A11 N11 c11) hk)
                  have HOK11 := Aside0.mk (show ∀ j, nx w10 (fun j => ok j ∧ j < wr.heap.size) (.slice A11 N11 c11) j → w.heap.size ≤ j from fun j h => by have := HBX.out.size; rcases h with h | h; exact HOK.out j h.1.1; omega)
                  have e0 : w11.cell? ⟨b14, 0, none⟩ = some (.int .u64 n) := by simp [World.cell?, hm14]
                  have e1 : w11.cell? ⟨b14, 1, none⟩ = some (.string D) := by simp [World.cell?, hm14]
                  obtain ⟨hN11, _, _⟩ := hl.C
                  have hN11' : N11 = 0 := hN11
                  subst hN11'
                  clear hN11
                  clear hl hk hr hD hbs hm14 eN eL eM
                  have HRD := Aside0.mk (show Rg w11.drew ha (nx w10 (fun j => ok j ∧ j < wr.heap.size) (.slice A11 0 c11)) K (n : Int) L from HR11.out.step (fun _ _ _ => rfl))
                  have HBD := Aside0.mk (below_drew HB11.out)
                  have HLD := Aside0.mk (HL11.out.below (below_drew (Below.refl _ w11)))
                  go_wp2_with (fail)
                  rw [← HZ14.out]
                  have hs0 : (fun w' => w'.cell? ⟨b14, 0, none⟩ = some (.int .u64 n) ∧ w'.cell? ⟨b14, 1, none⟩ = some (.string D)) w11.drew := ⟨e0, e1⟩
                  refine region_ws ((0, false) :: (1, false) :: (2, false) :: (3, false) :: (4, false) :: (5, false) :: (6, false) :: (7, false) :: (9, false) :: (8, true) :: (10, false) :: (11, false) :: (12, false) :: (13, false) :: (15, false) :: (14, true) :: (16, false) :: (17, false) :: (18, false) :: (19, false) :: (21, false) :: (20, true) :: (22, true) :: (23, false) :: (24, false) :: (25, false) :: (26, false) :: (27, false) :: (28, false) :: (29, false) :: (30, false) :: (32, false) :: (33, false) :: (34, false) :: (35, false) :: (36, false) :: (31, false) :: (37, false) :: (38, false) :: (39, false) :: []) (fun w' => w'.cell? ⟨b14, 0, none⟩ = some (.int .u64 n) ∧ w'.cell? ⟨b14, 1, none⟩ = some (.string D)) (by kernel_rfl) (by kernel_rfl) (fun _ d _ _ _ h => by cases d <;> exact h) ?_
                  repeat (first | (refine WS_w rfl hs0 (by rfl) (fun KK hKK => ?_); go_simp; refine hKK _ ?_; clear hKK KK) | (refine WS.s rfl hs0 (by rfl) (fun KK hKK => ?_); go_simp; refine hKK _ ?_; clear hKK KK))
                  refine WS_c rfl (by rfl) (fun KK hKK => ?_)
                  go_simp
                  refine (size_calls _ ha _ K _ _ HRD.out).mono ?_
                  rintro e w12 ⟨rfl, hq12⟩
                  have f0 : w12.cell? ⟨b14, 0, none⟩ = some (.int .u64 n) := (hq12.cell (World.block_lt_of_cell? _ _ e0)).trans e0
                  have f1 : w12.cell? ⟨b14, 1, none⟩ = some (.string D) := (hq12.cell (World.block_lt_of_cell? _ _ e1)).trans e1
                  have HR12 := Aside0.mk (HRD.out.below hq12)
                  have HL12 := Aside0.mk (HLD.out.below hq12)
                  have HB12 := Aside0.mk (below_weaken HBD.out HBD.out.size hq12)
                  clear hq12
                  try go_wp2_with (fail)
                  refine hKK.out _ _ ⟨f0, f1⟩ ?_
                  clear hKK KK
                  have hs1 : (fun w' => w'.cell? ⟨b14, 0, none⟩ = some (.int .u64 n) ∧ w'.cell? ⟨b14, 1, none⟩ = some (.string D)) w12 := ⟨f0, f1⟩
                  repeat (first | (refine WS_w rfl hs1 (by rfl) (fun KK hKK => ?_); go_simp; refine hKK _ ?_; clear hKK KK) | (refine WS.s rfl hs1 (by rfl) (fun KK hKK => ?_); go_simp; refine hKK _ ?_; clear hKK KK))
                  refine WS.l (.agg #[.int .u64 n, .string D]) rfl hs1 (by rfl) (fun w0 hSw => ?_) (fun KK hKK => ?_)
                  · (obtain ⟨o0, o1⟩ := hSw; clear e0 e1 f0 f1 hs0 hs1; go_simp; try rfl)
                  go_simp
                  refine hKK _ ?_
                  clear hKK KK
                  refine WS_c rfl (by rfl) (fun KK hKK => ?_)
                  go_simp
                  refine (root_calls 100 _ ha _ K n L D HR12.out HRT.out).mono ?_
                  rintro e w13 ⟨rfl, hq13⟩
                  have g0 : w13.cell? ⟨b14, 0, none⟩ = some (.int .u64 n) := (hq13.cell (World.block_lt_of_cell? _ _ f0)).trans f0
                  have g1 : w13.cell? ⟨b14, 1, none⟩ = some (.string D) := (hq13.cell (World.block_lt_of_cell? _ _ f1)).trans f1
                  have HR13 := Aside0.mk (HR12.out.below hq13)
                  have HL13 := Aside0.mk (HL12.out.below hq13)
                  have HB13 := Aside0.mk (below_weaken HB12.out HB12.out.size hq13)
                  clear hq13
                  try go_wp2_with (fail)
                  refine hKK.out _ _ ⟨g0, g1⟩ ?_
                  clear hKK KK
                  have hs2 : (fun w' => w'.cell? ⟨b14, 0, none⟩ = some (.int .u64 n) ∧ w'.cell? ⟨b14, 1, none⟩ = some (.string D)) w13 := ⟨g0, g1⟩
                  repeat (first | (refine WS_w rfl hs2 (by rfl) (fun KK hKK => ?_); go_simp; refine hKK _ ?_; clear hKK KK) | (refine WS.s rfl hs2 (by rfl) (fun KK hKK => ?_); go_simp; refine hKK _ ?_; clear hKK KK))
                  refine WS_c rfl (by rfl) (fun KK hKK => ?_)
                  go_simp
                  refine (peaks_calls _ ha _ K n L HR13.out HLN.out).mono ?_
                  rintro e w14 ⟨v14, rfl, hr14, hq14⟩
                  obtain ⟨A14, c14, e14, hcc14, hC14⟩ := Kd.R_reads hr14
                  subst e14
                  have i0 : w14.cell? ⟨b14, 0, none⟩ = some (.int .u64 n) := (hq14.cell (World.block_lt_of_cell? _ _ g0)).trans g0
                  have i1 : w14.cell? ⟨b14, 1, none⟩ = some (.string D) := (hq14.cell (World.block_lt_of_cell? _ _ g1)).trans g1
                  have HR14 := Aside0.mk (HR13.out.below hq14)
                  have HL14 := Aside0.mk (HL13.out.below hq14).C
                  have HC14 := Aside0.mk (And.intro hcc14 hC14)
                  have HB14 := Aside0.mk (below_weaken HB13.out HB13.out.size hq14)
                  clear hr14 hcc14 hC14 hq14
                  try go_wp2_with (fail)
                  refine hKK.out _ _ ⟨i0, i1⟩ ?_
                  clear hKK KK
                  refine WS_c rfl (by rfl) (fun KK hKK => ?_)
                  go_simp
                  refine (massiflaw09_same.calls 1000 A14 c14 L A6 c6 L true _ HC14.out.2 HC14.out.1 HL14.out.2.2 HL14.out.2.1 (massiflaw09_same.is 1000 L (Nat.le_trans HLN.out (by decide)) HLN2.out)).mono ?_
                  rintro e w15 ⟨rfl, hd15⟩
                  have j0 : w15.cell? ⟨b14, 0, none⟩ = some (.int .u64 n) := (hd15.below.cell (World.block_lt_of_cell? _ _ i0)).trans i0
                  have j1 : w15.cell? ⟨b14, 1, none⟩ = some (.string D) := (hd15.below.cell (World.block_lt_of_cell? _ _ i1)).trans i1
                  have HRF := Aside0.mk (HR14.out.below hd15.below)
                  have HBF := Aside0.mk (below_weaken HB14.out HB14.out.size hd15.below)
                  clear hd15
                  try go_wp2_with (fail)
                  refine hKK.out _ _ ⟨j0, j1⟩ ?_
                  clear hKK KK
                  have hs3 : (fun w' => w'.cell? ⟨b14, 0, none⟩ = some (.int .u64 n) ∧ w'.cell? ⟨b14, 1, none⟩ = some (.string D)) w15 := ⟨j0, j1⟩
                  repeat (first | (refine WS_w rfl hs3 (by rfl) (fun KK hKK => ?_); go_simp; refine hKK _ ?_; clear hKK KK) | (refine WS.s rfl hs3 (by rfl) (fun KK hKK => ?_); go_simp; refine hKK _ ?_; clear hKK KK))
                  refine WS.nil ?_
                  clear hs0 hs1 hs2 hs3 e0 e1 f0 f1 g0 g1 i0 i1 j0 j1
                  go_wp2_with (fail)
                  go_roundg k1
                  case measure => exact Nat.lt_succ_self _
                  case rel => exact ⟨x + 1, n, L, _, by go_num, ⟨by have := HI.out; omega⟩, HRF, ⟨HV.out⟩, HOK11, HBF⟩
              have m2 := (z3.2 hov).1
              obtain ⟨m3, m4⟩ := (z3.2 hov).2
              have hE : opE K n (g : Int) (dgt s K.toNat) = 0 := by unfold opE; rw [if_neg (by simpa using hsz), if_neg (by simp [hmod]; omega), if_neg (by simpa using hov)]
              clear hsz z2 z3 hmod hov
              as_aux_lemma =>
                have HKS3 := Aside0.mk (sums_u64 n g HV.out.n1 hg)
                have HE := Aside0.mk (show Op.E (Op.mk q yw (g : Int) s true) K n = 0 from by unfold Op.E; rw [htext, hheight]; exact hE)
                have HNL := Aside0.mk (nl_z (Op.mk q yw (g : Int) s true) (L := L) (g := g) HE.out (hheight.trans rfl))
                have DC := Aside0.mk (fun {W : World} (hW : Rg W ha (fun j => ok j ∧ j < wr.heap.size) K n L) => show Calls Try.prog 16 #[.pointer (some ⟨ha, 0, none⟩), .agg #[.int .i64 q, .int .i64 yw, .int .i64 (g : Int), .string s, .bool true], .int .i64 K] W (Does W ha (fun j => ok j ∧ j < wr.heap.size) K n L (Op.mk q yw (g : Int) s true)) from does_calls W ha _ K n L (Op.mk q yw (g : Int) s true) hW HV.out)
                clear hE htext hheight
                have HZ8 := Aside0.mk (show wr.heap.size ≤ w8.heap.size from ?hz8)
                case hz8 => exact HZ8a.out
                go_wp2_with (first | ((with_reducible refine gate_store (t := 39) (x := .tmp 14) (v := .tmp 69) rfl ?_); refine Sha.wpList_store_row' rfl 39 (.tmp 14) (.tmp 69) rfl w8.heap.size rfl #[.int .u64 n, .string D] rfl _ 39 (blk_new _ _) rfl (by kernel_rfl) (one2 n D) ?_; intro w9 hw9; rw [Sha.setRow_new _ _ _ _ _ rfl] at hw9; rw [← hw9] at HW9 HM9; clear hw9; obtain ⟨c0, c1, c2, c3, c4⟩ := HCK.out w9 HW9.out))
                refine (digest_calls w9 s K HKI.out.1 HKI.out.2).mono ?_
                rintro e w10 ⟨rfl, hb10⟩
                have HRX := Aside0.mk ((HR8.out.below HW9.out).below hb10)
                have HLX := Aside0.mk ((HL8.out.below HW9.out).below hb10)
                have HMX := Aside0.mk (show w10.heap[b14]? = some (.cells #[.int .u64 n, .string D] 39 (0, 0)) from by rw [HZ14.out]; exact blk_below HM9.out hb10)
                have HBX := Aside0.mk (below_weaken (below_weaken HB8.out HB8.out.size HW9.out) (Nat.le_trans HB8.out.size HW9.out.size) hb10)
                clear c0 c1 c2 c3 c4
                obtain ⟨c0, c1, c2, c3, c4⟩ := HCK.out w10 (below_weaken HW9.out HW9.out.size hb10)
                clear hb10
                go_wp2_with (fail)
                refine (DC.out HRX.out).mono ?_
                intro e w11 hD
                obtain ⟨A11, N11, c11, rfl, hbs, hl, hr, hk⟩ := hD.told
                rw [HE.out]
                have HVD := Aside0.mk (show Inv K (n + 2 ^ g) (Op.L (Op.mk q yw (g : Int) s true) K n L) from by have h := HV.out.does (Op.mk q yw (g : Int) s true); rw [HNL.out.1] at h; exact h)
                obtain ⟨eN, eL, eM⟩ := HNL.out
                rw [eN] at hr
                have hm14 : w11.heap[b14]? = some (.cells #[.int .u64 n, .string D] 39 (0, 0)) := (hk.keep b14 (blkLt HMX.out) (fun h2 => by have := HZ14.out; have := HZ8.out; have := h2.2; omega)).trans HMX.out
                have HB11 := Aside0.mk (Kp.old HBX.out HBX.out.size hk (fun j h => HOK.out j h.1))
                have HR11 := Aside0.mk hr
                have HL11 := Aside0.mk (HLX.out.next (u := .slice A11 N11 c11) hk)
                have HOK11 := Aside0.mk (show ∀ j, nx w10 (fun j => ok j ∧ j < wr.heap.size) (.slice A11 N11 c11) j → w.heap.size ≤ j from fun j h => by have := HBX.out.size; rcases h with h | h; exact HOK.out j h.1.1; omega)
                have e0 : w11.cell? ⟨b14, 0, none⟩ = some (.int .u64 n) := by simp [World.cell?, hm14]
                have e1 : w11.cell? ⟨b14, 1, none⟩ = some (.string D) := by simp [World.cell?, hm14]
                clear hl hk hr hD hbs hm14 eN eL eM
                have HRD := Aside0.mk (show Rg w11.drew ha (nx w10 (fun j => ok j ∧ j < wr.heap.size) (.slice A11 N11 c11)) K ((n + 2 ^ g : Nat) : Int) (Op.L (Op.mk q yw (g : Int) s true) K n L) from HR11.out.step (fun _ _ _ => rfl))
                have HBD := Aside0.mk (below_drew HB11.out)
                go_wp2_with (fail)
                rw [← HZ14.out]
                obtain ⟨k1', k2', k3'⟩ := HKS3.out
                clear m1 m2 m3 m4 z1
                refine region_ws ((0, false) :: (1, false) :: (2, false) :: (3, false) :: (4, false) :: (5, false) :: (6, false) :: (7, false) :: (9, false) :: (8, false) :: (10, false) :: (11, false) :: (12, false) :: (13, false) :: (15, false) :: (14, false) :: (16, false) :: (17, false) :: (18, false) :: (19, false) :: (21, false) :: (20, false) :: (22, false) :: (23, false) :: (24, false) :: (25, false) :: (26, false) :: (27, false) :: (28, false) :: (29, false) :: (30, false) :: (32, false) :: (33, false) :: (34, false) :: (35, false) :: (36, false) :: (31, true) :: (37, false) :: (38, false) :: (39, false) :: []) (fun _ => True) (by kernel_rfl) (by kernel_rfl) (fun _ d _ _ _ h => by cases d <;> exact h) ?_
                repeat (first | (refine WS_w rfl trivial (by rfl) (fun KK hKK => ?_); go_simp; refine hKK _ ?_; clear hKK KK) | (refine WS.s rfl trivial (by rfl) (fun KK hKK => ?_); go_simp; refine hKK _ ?_; clear hKK KK))
                refine WS_c rfl (by rfl) (fun KK hKK => ?_)
                go_simp
                refine (size_calls _ ha _ K _ _ HRD.out).mono ?_
                rintro e w12 ⟨rfl, hb12'⟩
                have HBB := Aside0.mk hb12'
                clear hb12'
                try go_wp2_with (fail)
                refine hKK.out _ _ trivial ?_
                clear hKK KK
                repeat (first | (refine WS_w rfl trivial (by rfl) (fun KK hKK => ?_); go_simp; refine hKK _ ?_; clear hKK KK) | (refine WS.s rfl trivial (by rfl) (fun KK hKK => ?_); go_simp; refine hKK _ ?_; clear hKK KK))
                refine WS.nil ?_
                have HRF := Aside0.mk (HRD.out.below HBB.out)
                have HBF := Aside0.mk (below_weaken HBD.out HBD.out.size HBB.out)
                go_wp2_with (fail)
                go_roundg k1
                case measure => exact Nat.lt_succ_self _
                case rel => exact ⟨x + 1, n + 2 ^ g, _, _, by go_num, ⟨by have := HI.out; omega⟩, HRF, ⟨HVD.out⟩, HOK11, HBF⟩
          · have tq : (Int.tmod q 2 == 0) = false := by simp [hq]
            cases r
            · have htext : Op.text (Op.mk q yw h s false) K = s := by unfold Op.text; simp
              have hheight : Op.height (Op.mk q yw h s false) = 0 := by unfold Op.height; simp [hq]
              by_cases hsz : ((s).size : Int) = K
              rotate_left
              · have q1 : (((s).size : Int) != K) = true := by simpa using hsz
                have hE : opE K n 0 s = 90 := by unfold opE; rw [if_pos hsz]
                clear hsz
                as_aux_lemma =>
                  have HE := Aside0.mk (show Op.E (Op.mk q yw h s false) K n = 90 from by unfold Op.E; rw [htext, hheight]; exact hE)
                  have HNL := Aside0.mk (nl_nz (Op.mk q yw h s false) (L := L) HE.out)
                  have DC := Aside0.mk (fun {W : World} (hW : Rg W ha (fun j => ok j ∧ j < wr.heap.size) K n L) => show Calls Try.prog 16 #[.pointer (some ⟨ha, 0, none⟩), .agg #[.int .i64 q, .int .i64 yw, .int .i64 h, .string s, .bool false], .int .i64 K] W (Does W ha (fun j => ok j ∧ j < wr.heap.size) K n L (Op.mk q yw h s false)) from does_calls W ha _ K n L (Op.mk q yw h s false) hW HV.out)
                  clear hE htext hheight
                  have HZ8 := Aside0.mk (show wr.heap.size ≤ w8.heap.size from ?hz8)
                  case hz8 => exact HZ8a.out
                  go_wp2_with (first | ((with_reducible refine gate_store (t := 39) (x := .tmp 14) (v := .tmp 69) rfl ?_); refine Sha.wpList_store_row' rfl 39 (.tmp 14) (.tmp 69) rfl w8.heap.size rfl #[.int .u64 n, .string D] rfl _ 39 (blk_new _ _) rfl (by kernel_rfl) (one2 n D) ?_; intro w9 hw9; rw [Sha.setRow_new _ _ _ _ _ rfl] at hw9; rw [← hw9] at HW9 HM9; clear hw9; obtain ⟨c0, c1, c2, c3, c4⟩ := HCK.out w9 HW9.out))
                  have HRX := Aside0.mk (HR8.out.below HW9.out)
                  have HLX := Aside0.mk (HL8.out.below HW9.out)
                  have HMX := Aside0.mk (show w9.heap[b14]? = some (.cells #[.int .u64 n, .string D] 39 (0, 0)) from by rw [HZ14.out]; exact HM9.out)
                  have HBX := Aside0.mk (below_weaken HB8.out HB8.out.size HW9.out)
                  refine (DC.out HRX.out).mono ?_
                  intro e w11 hD
                  obtain ⟨A11, N11, c11, rfl, hbs, hl, hr, hk⟩ := hD.told
                  rw [HE.out]
                  obtain ⟨eN, eL, eM⟩ := HNL.out
                  rw [eM] at hl
                  rw [eN, eL] at hr
                  have hm14 : w11.heap[b14]? = some (.cells #[.int .u64 n, .string D] 39 (0, 0)) := (hk.keep b14 (blkLt HMX.out) (fun h2 => by have := HZ14.out; have := HZ8.out; have := h2.2; omega)).trans HMX.out
                  have HB11 := Aside0.mk (Kp.old HBX.out HBX.out.size hk (fun j h => HOK.out j h.1))
                  have HR11 := Aside0.mk hr
                  have HL11 := Aside0.mk (HLX.out.next (u := .slice A11 N11 c11) hk)
                  have HOK11 := Aside0.mk (show ∀ j, nx w9 (fun j => ok j ∧ j < wr.heap.size) (.slice A11 N11 c11) j → w.heap.size ≤ j from fun j h => by have := HBX.out.size; rcases h with h | h; exact HOK.out j h.1.1; omega)
                  have e0 : w11.cell? ⟨b14, 0, none⟩ = some (.int .u64 n) := by simp [World.cell?, hm14]
                  have e1 : w11.cell? ⟨b14, 1, none⟩ = some (.string D) := by simp [World.cell?, hm14]
                  obtain ⟨hN11, _, _⟩ := hl.C
                  have hN11' : N11 = 0 := hN11
                  subst hN11'
                  clear hN11
                  clear hl hk hr hD hbs hm14 eN eL eM
                  have HRD := Aside0.mk (show Rg w11.drew ha (nx w9 (fun j => ok j ∧ j < wr.heap.size) (.slice A11 0 c11)) K (n : Int) L from HR11.out.step (fun _ _ _ => rfl))
                  have HBD := Aside0.mk (below_drew HB11.out)
                  have HLD := Aside0.mk (HL11.out.below (below_drew (Below.refl _ w11)))
                  go_wp2_with (fail)
                  rw [← HZ14.out]
                  have hs0 : (fun w' => w'.cell? ⟨b14, 0, none⟩ = some (.int .u64 n) ∧ w'.cell? ⟨b14, 1, none⟩ = some (.string D)) w11.drew := ⟨e0, e1⟩
                  refine region_ws ((0, false) :: (1, false) :: (2, false) :: (3, false) :: (4, false) :: (5, false) :: (6, false) :: (7, false) :: (9, false) :: (8, true) :: (10, false) :: (11, false) :: (12, false) :: (13, false) :: (15, false) :: (14, true) :: (16, false) :: (17, false) :: (18, false) :: (19, false) :: (21, false) :: (20, true) :: (22, true) :: (23, false) :: (24, false) :: (25, false) :: (26, false) :: (27, false) :: (28, false) :: (29, false) :: (30, false) :: (32, false) :: (33, false) :: (34, false) :: (35, false) :: (36, false) :: (31, false) :: (37, false) :: (38, false) :: (39, false) :: []) (fun w' => w'.cell? ⟨b14, 0, none⟩ = some (.int .u64 n) ∧ w'.cell? ⟨b14, 1, none⟩ = some (.string D)) (by kernel_rfl) (by kernel_rfl) (fun _ d _ _ _ h => by cases d <;> exact h) ?_
                  repeat (first | (refine WS_w rfl hs0 (by rfl) (fun KK hKK => ?_); go_simp; refine hKK _ ?_; clear hKK KK) | (refine WS.s rfl hs0 (by rfl) (fun KK hKK => ?_); go_simp; refine hKK _ ?_; clear hKK KK))
                  refine WS_c rfl (by rfl) (fun KK hKK => ?_)
                  go_simp
                  refine (size_calls _ ha _ K _ _ HRD.out).mono ?_
                  rintro e w12 ⟨rfl, hq12⟩
                  have f0 : w12.cell? ⟨b14, 0, none⟩ = some (.int .u64 n) := (hq12.cell (World.block_lt_of_cell? _ _ e0)).trans e0
                  have f1 : w12.cell? ⟨b14, 1, none⟩ = some (.string D) := (hq12.cell (World.block_lt_of_cell? _ _ e1)).trans e1
                  have HR12 := Aside0.mk (HRD.out.below hq12)
                  have HL12 := Aside0.mk (HLD.out.below hq12)
                  have HB12 := Aside0.mk (below_weaken HBD.out HBD.out.size hq12)
                  clear hq12
                  try go_wp2_with (fail)
                  refine hKK.out _ _ ⟨f0, f1⟩ ?_
                  clear hKK KK
                  have hs1 : (fun w' => w'.cell? ⟨b14, 0, none⟩ = some (.int .u64 n) ∧ w'.cell? ⟨b14, 1, none⟩ = some (.string D)) w12 := ⟨f0, f1⟩
                  repeat (first | (refine WS_w rfl hs1 (by rfl) (fun KK hKK => ?_); go_simp; refine hKK _ ?_; clear hKK KK) | (refine WS.s rfl hs1 (by rfl) (fun KK hKK => ?_); go_simp; refine hKK _ ?_; clear hKK KK))
                  refine WS.l (.agg #[.int .u64 n, .string D]) rfl hs1 (by rfl) (fun w0 hSw => ?_) (fun KK hKK => ?_)
                  · (obtain ⟨o0, o1⟩ := hSw; clear e0 e1 f0 f1 hs0 hs1; go_simp; try rfl)
                  go_simp
                  refine hKK _ ?_
                  clear hKK KK
                  refine WS_c rfl (by rfl) (fun KK hKK => ?_)
                  go_simp
                  refine (root_calls 100 _ ha _ K n L D HR12.out HRT.out).mono ?_
                  rintro e w13 ⟨rfl, hq13⟩
                  have g0 : w13.cell? ⟨b14, 0, none⟩ = some (.int .u64 n) := (hq13.cell (World.block_lt_of_cell? _ _ f0)).trans f0
                  have g1 : w13.cell? ⟨b14, 1, none⟩ = some (.string D) := (hq13.cell (World.block_lt_of_cell? _ _ f1)).trans f1
                  have HR13 := Aside0.mk (HR12.out.below hq13)
                  have HL13 := Aside0.mk (HL12.out.below hq13)
                  have HB13 := Aside0.mk (below_weaken HB12.out HB12.out.size hq13)
                  clear hq13
                  try go_wp2_with (fail)
                  refine hKK.out _ _ ⟨g0, g1⟩ ?_
                  clear hKK KK
                  have hs2 : (fun w' => w'.cell? ⟨b14, 0, none⟩ = some (.int .u64 n) ∧ w'.cell? ⟨b14, 1, none⟩ = some (.string D)) w13 := ⟨g0, g1⟩
                  repeat (first | (refine WS_w rfl hs2 (by rfl) (fun KK hKK => ?_); go_simp; refine hKK _ ?_; clear hKK KK) | (refine WS.s rfl hs2 (by rfl) (fun KK hKK => ?_); go_simp; refine hKK _ ?_; clear hKK KK))
                  refine WS_c rfl (by rfl) (fun KK hKK => ?_)
                  go_simp
                  refine (peaks_calls _ ha _ K n L HR13.out HLN.out).mono ?_
                  rintro e w14 ⟨v14, rfl, hr14, hq14⟩
                  obtain ⟨A14, c14, e14, hcc14, hC14⟩ := Kd.R_reads hr14
                  subst e14
                  have i0 : w14.cell? ⟨b14, 0, none⟩ = some (.int .u64 n) := (hq14.cell (World.block_lt_of_cell? _ _ g0)).trans g0
                  have i1 : w14.cell? ⟨b14, 1, none⟩ = some (.string D) := (hq14.cell (World.block_lt_of_cell? _ _ g1)).trans g1
                  have HR14 := Aside0.mk (HR13.out.below hq14)
                  have HL14 := Aside0.mk (HL13.out.below hq14).C
                  have HC14 := Aside0.mk (And.intro hcc14 hC14)
                  have HB14 := Aside0.mk (below_weaken HB13.out HB13.out.size hq14)
                  clear hr14 hcc14 hC14 hq14
                  try go_wp2_with (fail)
                  refine hKK.out _ _ ⟨i0, i1⟩ ?_
                  clear hKK KK
                  refine WS_c rfl (by rfl) (fun KK hKK => ?_)
                  go_simp
                  refine (massiflaw09_same.calls 1000 A14 c14 L A6 c6 L true _ HC14.out.2 HC14.out.1 HL14.out.2.2 HL14.out.2.1 (massiflaw09_same.is 1000 L (Nat.le_trans HLN.out (by decide)) HLN2.out)).mono ?_
                  rintro e w15 ⟨rfl, hd15⟩
                  have j0 : w15.cell? ⟨b14, 0, none⟩ = some (.int .u64 n) := (hd15.below.cell (World.block_lt_of_cell? _ _ i0)).trans i0
                  have j1 : w15.cell? ⟨b14, 1, none⟩ = some (.string D) := (hd15.below.cell (World.block_lt_of_cell? _ _ i1)).trans i1
                  have HRF := Aside0.mk (HR14.out.below hd15.below)
                  have HBF := Aside0.mk (below_weaken HB14.out HB14.out.size hd15.below)
                  clear hd15
                  try go_wp2_with (fail)
                  refine hKK.out _ _ ⟨j0, j1⟩ ?_
                  clear hKK KK
                  have hs3 : (fun w' => w'.cell? ⟨b14, 0, none⟩ = some (.int .u64 n) ∧ w'.cell? ⟨b14, 1, none⟩ = some (.string D)) w15 := ⟨j0, j1⟩
                  repeat (first | (refine WS_w rfl hs3 (by rfl) (fun KK hKK => ?_); go_simp; refine hKK _ ?_; clear hKK KK) | (refine WS.s rfl hs3 (by rfl) (fun KK hKK => ?_); go_simp; refine hKK _ ?_; clear hKK KK))
                  refine WS.nil ?_
                  clear hs0 hs1 hs2 hs3 e0 e1 f0 f1 g0 g1 i0 i1 j0 j1
                  go_wp2_with (fail)
                  go_roundg k1
                  case measure => exact Nat.lt_succ_self _
                  case rel => exact ⟨x + 1, n, L, _, by go_num, ⟨by have := HI.out; omega⟩, HRF, ⟨HV.out⟩, HOK11, HBF⟩
              have q1 : (((s).size : Int) != K) = false := by simp [hsz]
              by_cases hov : 2 ^ 40 < n + 1
              · have m2 : decide (1099511627776 < (n : Int) + 1) = true := decide_eq_true (by omega)
                have hE : opE K n 0 s = 30 := by unfold opE; rw [if_neg (by simpa using hsz), if_neg (by simp [Nat.mod_one]), if_pos (by simpa using hov)]
                clear hsz hov
                as_aux_lemma =>
                  have HE := Aside0.mk (show Op.E (Op.mk q yw h s false) K n = 30 from by unfold Op.E; rw [htext, hheight]; exact hE)
                  have HNL := Aside0.mk (nl_nz (Op.mk q yw h s false) (L := L) HE.out)
                  have DC := Aside0.mk (fun {W : World} (hW : Rg W ha (fun j => ok j ∧ j < wr.heap.size) K n L) => show Calls Try.prog 16 #[.pointer (some ⟨ha, 0, none⟩), .agg #[.int .i64 q, .int .i64 yw, .int .i64 h, .string s, .bool false], .int .i64 K] W (Does W ha (fun j => ok j ∧ j < wr.heap.size) K n L (Op.mk q yw h s false)) from does_calls W ha _ K n L (Op.mk q yw h s false) hW HV.out)
                  clear hE htext hheight
                  have HZ8 := Aside0.mk (show wr.heap.size ≤ w8.heap.size from ?hz8)
                  case hz8 => exact HZ8a.out
                  go_wp2_with (first | ((with_reducible refine gate_store (t := 39) (x := .tmp 14) (v := .tmp 69) rfl ?_); refine Sha.wpList_store_row' rfl 39 (.tmp 14) (.tmp 69) rfl w8.heap.size rfl #[.int .u64 n, .string D] rfl _ 39 (blk_new _ _) rfl (by kernel_rfl) (one2 n D) ?_; intro w9 hw9; rw [Sha.setRow_new _ _ _ _ _ rfl] at hw9; rw [← hw9] at HW9 HM9; clear hw9; obtain ⟨c0, c1, c2, c3, c4⟩ := HCK.out w9 HW9.out))
                  have HRX := Aside0.mk (HR8.out.below HW9.out)
                  have HLX := Aside0.mk (HL8.out.below HW9.out)
                  have HMX := Aside0.mk (show w9.heap[b14]? = some (.cells #[.int .u64 n, .string D] 39 (0, 0)) from by rw [HZ14.out]; exact HM9.out)
                  have HBX := Aside0.mk (below_weaken HB8.out HB8.out.size HW9.out)
                  refine (DC.out HRX.out).mono ?_
                  intro e w11 hD
                  obtain ⟨A11, N11, c11, rfl, hbs, hl, hr, hk⟩ := hD.told
                  rw [HE.out]
                  obtain ⟨eN, eL, eM⟩ := HNL.out
                  rw [eM] at hl
                  rw [eN, eL] at hr
                  have hm14 : w11.heap[b14]? = some (.cells #[.int .u64 n, .string D] 39 (0, 0)) := (hk.keep b14 (blkLt HMX.out) (fun h2 => by have := HZ14.out; have := HZ8.out; have := h2.2; omega)).trans HMX.out
                  have HB11 := Aside0.mk (Kp.old HBX.out HBX.out.size hk (fun j h => HOK.out j h.1))
                  have HR11 := Aside0.mk hr
                  have HL11 := Aside0.mk (HLX.out.next (u := .slice A11 N11 c11) hk)
                  have HOK11 := Aside0.mk (show ∀ j, nx w9 (fun j => ok j ∧ j < wr.heap.size) (.slice A11 N11 c11) j → w.heap.size ≤ j from fun j h => by have := HBX.out.size; rcases h with h | h; exact HOK.out j h.1.1; omega)
                  have e0 : w11.cell? ⟨b14, 0, none⟩ = some (.int .u64 n) := by simp [World.cell?, hm14]
                  have e1 : w11.cell? ⟨b14, 1, none⟩ = some (.string D) := by simp [World.cell?, hm14]
                  obtain ⟨hN11, _, _⟩ := hl.C
                  have hN11' : N11 = 0 := hN11
                  subst hN11'
                  clear hN11
                  clear hl hk hr hD hbs hm14 eN eL eM
                  have HRD := Aside0.mk (show Rg w11.drew ha (nx w9 (fun j => ok j ∧ j < wr.heap.size) (.slice A11 0 c11)) K (n : Int) L from HR11.out.step (fun _ _ _ => rfl))
                  have HBD := Aside0.mk (below_drew HB11.out)
                  have HLD := Aside0.mk (HL11.out.below (below_drew (Below.refl _ w11)))
                  go_wp2_with (fail)
                  rw [← HZ14.out]
                  have hs0 : (fun w' => w'.cell? ⟨b14, 0, none⟩ = some (.int .u64 n) ∧ w'.cell? ⟨b14, 1, none⟩ = some (.string D)) w11.drew := ⟨e0, e1⟩
                  refine region_ws ((0, false) :: (1, false) :: (2, false) :: (3, false) :: (4, false) :: (5, false) :: (6, false) :: (7, false) :: (9, false) :: (8, true) :: (10, false) :: (11, false) :: (12, false) :: (13, false) :: (15, false) :: (14, true) :: (16, false) :: (17, false) :: (18, false) :: (19, false) :: (21, false) :: (20, true) :: (22, true) :: (23, false) :: (24, false) :: (25, false) :: (26, false) :: (27, false) :: (28, false) :: (29, false) :: (30, false) :: (32, false) :: (33, false) :: (34, false) :: (35, false) :: (36, false) :: (31, false) :: (37, false) :: (38, false) :: (39, false) :: []) (fun w' => w'.cell? ⟨b14, 0, none⟩ = some (.int .u64 n) ∧ w'.cell? ⟨b14, 1, none⟩ = some (.string D)) (by kernel_rfl) (by kernel_rfl) (fun _ d _ _ _ h => by cases d <;> exact h) ?_
                  repeat (first | (refine WS_w rfl hs0 (by rfl) (fun KK hKK => ?_); go_simp; refine hKK _ ?_; clear hKK KK) | (refine WS.s rfl hs0 (by rfl) (fun KK hKK => ?_); go_simp; refine hKK _ ?_; clear hKK KK))
                  refine WS_c rfl (by rfl) (fun KK hKK => ?_)
                  go_simp
                  refine (size_calls _ ha _ K _ _ HRD.out).mono ?_
                  rintro e w12 ⟨rfl, hq12⟩
                  have f0 : w12.cell? ⟨b14, 0, none⟩ = some (.int .u64 n) := (hq12.cell (World.block_lt_of_cell? _ _ e0)).trans e0
                  have f1 : w12.cell? ⟨b14, 1, none⟩ = some (.string D) := (hq12.cell (World.block_lt_of_cell? _ _ e1)).trans e1
                  have HR12 := Aside0.mk (HRD.out.below hq12)
                  have HL12 := Aside0.mk (HLD.out.below hq12)
                  have HB12 := Aside0.mk (below_weaken HBD.out HBD.out.size hq12)
                  clear hq12
                  try go_wp2_with (fail)
                  refine hKK.out _ _ ⟨f0, f1⟩ ?_
                  clear hKK KK
                  have hs1 : (fun w' => w'.cell? ⟨b14, 0, none⟩ = some (.int .u64 n) ∧ w'.cell? ⟨b14, 1, none⟩ = some (.string D)) w12 := ⟨f0, f1⟩
                  repeat (first | (refine WS_w rfl hs1 (by rfl) (fun KK hKK => ?_); go_simp; refine hKK _ ?_; clear hKK KK) | (refine WS.s rfl hs1 (by rfl) (fun KK hKK => ?_); go_simp; refine hKK _ ?_; clear hKK KK))
                  refine WS.l (.agg #[.int .u64 n, .string D]) rfl hs1 (by rfl) (fun w0 hSw => ?_) (fun KK hKK => ?_)
                  · (obtain ⟨o0, o1⟩ := hSw; clear e0 e1 f0 f1 hs0 hs1; go_simp; try rfl)
                  go_simp
                  refine hKK _ ?_
                  clear hKK KK
                  refine WS_c rfl (by rfl) (fun KK hKK => ?_)
                  go_simp
                  refine (root_calls 100 _ ha _ K n L D HR12.out HRT.out).mono ?_
                  rintro e w13 ⟨rfl, hq13⟩
                  have g0 : w13.cell? ⟨b14, 0, none⟩ = some (.int .u64 n) := (hq13.cell (World.block_lt_of_cell? _ _ f0)).trans f0
                  have g1 : w13.cell? ⟨b14, 1, none⟩ = some (.string D) := (hq13.cell (World.block_lt_of_cell? _ _ f1)).trans f1
                  have HR13 := Aside0.mk (HR12.out.below hq13)
                  have HL13 := Aside0.mk (HL12.out.below hq13)
                  have HB13 := Aside0.mk (below_weaken HB12.out HB12.out.size hq13)
                  clear hq13
                  try go_wp2_with (fail)
                  refine hKK.out _ _ ⟨g0, g1⟩ ?_
                  clear hKK KK
                  have hs2 : (fun w' => w'.cell? ⟨b14, 0, none⟩ = some (.int .u64 n) ∧ w'.cell? ⟨b14, 1, none⟩ = some (.string D)) w13 := ⟨g0, g1⟩
                  repeat (first | (refine WS_w rfl hs2 (by rfl) (fun KK hKK => ?_); go_simp; refine hKK _ ?_; clear hKK KK) | (refine WS.s rfl hs2 (by rfl) (fun KK hKK => ?_); go_simp; refine hKK _ ?_; clear hKK KK))
                  refine WS_c rfl (by rfl) (fun KK hKK => ?_)
                  go_simp
                  refine (peaks_calls _ ha _ K n L HR13.out HLN.out).mono ?_
                  rintro e w14 ⟨v14, rfl, hr14, hq14⟩
                  obtain ⟨A14, c14, e14, hcc14, hC14⟩ := Kd.R_reads hr14
                  subst e14
                  have i0 : w14.cell? ⟨b14, 0, none⟩ = some (.int .u64 n) := (hq14.cell (World.block_lt_of_cell? _ _ g0)).trans g0
                  have i1 : w14.cell? ⟨b14, 1, none⟩ = some (.string D) := (hq14.cell (World.block_lt_of_cell? _ _ g1)).trans g1
                  have HR14 := Aside0.mk (HR13.out.below hq14)
                  have HL14 := Aside0.mk (HL13.out.below hq14).C
                  have HC14 := Aside0.mk (And.intro hcc14 hC14)
                  have HB14 := Aside0.mk (below_weaken HB13.out HB13.out.size hq14)
                  clear hr14 hcc14 hC14 hq14
                  try go_wp2_with (fail)
                  refine hKK.out _ _ ⟨i0, i1⟩ ?_
                  clear hKK KK
                  refine WS_c rfl (by rfl) (fun KK hKK => ?_)
                  go_simp
                  refine (massiflaw09_same.calls 1000 A14 c14 L A6 c6 L true _ HC14.out.2 HC14.out.1 HL14.out.2.2 HL14.out.2.1 (massiflaw09_same.is 1000 L (Nat.le_trans HLN.out (by decide)) HLN2.out)).mono ?_
                  rintro e w15 ⟨rfl, hd15⟩
                  have j0 : w15.cell? ⟨b14, 0, none⟩ = some (.int .u64 n) := (hd15.below.cell (World.block_lt_of_cell? _ _ i0)).trans i0
                  have j1 : w15.cell? ⟨b14, 1, none⟩ = some (.string D) := (hd15.below.cell (World.block_lt_of_cell? _ _ i1)).trans i1
                  have HRF := Aside0.mk (HR14.out.below hd15.below)
                  have HBF := Aside0.mk (below_weaken HB14.out HB14.out.size hd15.below)
                  clear hd15
                  try go_wp2_with (fail)
                  refine hKK.out _ _ ⟨j0, j1⟩ ?_
                  clear hKK KK
                  have hs3 : (fun w' => w'.cell? ⟨b14, 0, none⟩ = some (.int .u64 n) ∧ w'.cell? ⟨b14, 1, none⟩ = some (.string D)) w15 := ⟨j0, j1⟩
                  repeat (first | (refine WS_w rfl hs3 (by rfl) (fun KK hKK => ?_); go_simp; refine hKK _ ?_; clear hKK KK) | (refine WS.s rfl hs3 (by rfl) (fun KK hKK => ?_); go_simp; refine hKK _ ?_; clear hKK KK))
                  refine WS.nil ?_
                  clear hs0 hs1 hs2 hs3 e0 e1 f0 f1 g0 g1 i0 i1 j0 j1
                  go_wp2_with (fail)
                  go_roundg k1
                  case measure => exact Nat.lt_succ_self _
                  case rel => exact ⟨x + 1, n, L, _, by go_num, ⟨by have := HI.out; omega⟩, HRF, ⟨HV.out⟩, HOK11, HBF⟩
              have m2 : decide (1099511627776 < (n : Int) + 1) = false := decide_eq_false (by omega)
              have hE : opE K n 0 s = 0 := by unfold opE; rw [if_neg (by simpa using hsz), if_neg (by simp [Nat.mod_one]), if_neg (by simpa using hov)]
              clear hsz hov
              as_aux_lemma =>
                have HE := Aside0.mk (show Op.E (Op.mk q yw h s false) K n = 0 from by unfold Op.E; rw [htext, hheight]; exact hE)
                have HNL := Aside0.mk (nl_z (Op.mk q yw h s false) (L := L) (g := 0) HE.out (hheight.trans rfl))
                have DC := Aside0.mk (fun {W : World} (hW : Rg W ha (fun j => ok j ∧ j < wr.heap.size) K n L) => show Calls Try.prog 16 #[.pointer (some ⟨ha, 0, none⟩), .agg #[.int .i64 q, .int .i64 yw, .int .i64 h, .string s, .bool false], .int .i64 K] W (Does W ha (fun j => ok j ∧ j < wr.heap.size) K n L (Op.mk q yw h s false)) from does_calls W ha _ K n L (Op.mk q yw h s false) hW HV.out)
                clear hE htext hheight
                have HZ8 := Aside0.mk (show wr.heap.size ≤ w8.heap.size from ?hz8)
                case hz8 => exact HZ8a.out
                go_wp2_with (first | ((with_reducible refine gate_store (t := 39) (x := .tmp 14) (v := .tmp 69) rfl ?_); refine Sha.wpList_store_row' rfl 39 (.tmp 14) (.tmp 69) rfl w8.heap.size rfl #[.int .u64 n, .string D] rfl _ 39 (blk_new _ _) rfl (by kernel_rfl) (one2 n D) ?_; intro w9 hw9; rw [Sha.setRow_new _ _ _ _ _ rfl] at hw9; rw [← hw9] at HW9 HM9; clear hw9; obtain ⟨c0, c1, c2, c3, c4⟩ := HCK.out w9 HW9.out))
                have HRX := Aside0.mk (HR8.out.below HW9.out)
                have HLX := Aside0.mk (HL8.out.below HW9.out)
                have HMX := Aside0.mk (show w9.heap[b14]? = some (.cells #[.int .u64 n, .string D] 39 (0, 0)) from by rw [HZ14.out]; exact HM9.out)
                have HBX := Aside0.mk (below_weaken HB8.out HB8.out.size HW9.out)
                refine (DC.out HRX.out).mono ?_
                intro e w11 hD
                obtain ⟨A11, N11, c11, rfl, hbs, hl, hr, hk⟩ := hD.told
                rw [HE.out]
                have HVD := Aside0.mk (show Inv K (n + 2 ^ 0) (Op.L (Op.mk q yw h s false) K n L) from by have h := HV.out.does (Op.mk q yw h s false); rw [HNL.out.1] at h; exact h)
                obtain ⟨eN, eL, eM⟩ := HNL.out
                rw [eN] at hr
                have hm14 : w11.heap[b14]? = some (.cells #[.int .u64 n, .string D] 39 (0, 0)) := (hk.keep b14 (blkLt HMX.out) (fun h2 => by have := HZ14.out; have := HZ8.out; have := h2.2; omega)).trans HMX.out
                have HB11 := Aside0.mk (Kp.old HBX.out HBX.out.size hk (fun j h => HOK.out j h.1))
                have HR11 := Aside0.mk hr
                have HL11 := Aside0.mk (HLX.out.next (u := .slice A11 N11 c11) hk)
                have HOK11 := Aside0.mk (show ∀ j, nx w9 (fun j => ok j ∧ j < wr.heap.size) (.slice A11 N11 c11) j → w.heap.size ≤ j from fun j h => by have := HBX.out.size; rcases h with h | h; exact HOK.out j h.1.1; omega)
                have e0 : w11.cell? ⟨b14, 0, none⟩ = some (.int .u64 n) := by simp [World.cell?, hm14]
                have e1 : w11.cell? ⟨b14, 1, none⟩ = some (.string D) := by simp [World.cell?, hm14]
                clear hl hk hr hD hbs hm14 eN eL eM
                have HRD := Aside0.mk (show Rg w11.drew ha (nx w9 (fun j => ok j ∧ j < wr.heap.size) (.slice A11 N11 c11)) K ((n + 2 ^ 0 : Nat) : Int) (Op.L (Op.mk q yw h s false) K n L) from HR11.out.step (fun _ _ _ => rfl))
                have HBD := Aside0.mk (below_drew HB11.out)
                go_wp2_with (fail)
                rw [← HZ14.out]
                have b1 : 0 ≤ (n : Int) + 1 ∧ (n : Int) + 1 ≤ 18446744073709551615 := by have := HV.out.n1; omega
                have w1 : IntKind.u64.wrap ((n : Int) + 1) = (n : Int) + 1 := IntWalk.u64_in _ b1
                have w2 : IntKind.u64.wrap 0 = 0 := IntWalk.u64_in _ (by decide)
                have w3 : IntKind.u64.wrap 1 = 1 := IntWalk.u64_in _ (by decide)
                clear b1
                refine region_ws ((0, false) :: (1, false) :: (2, false) :: (3, false) :: (4, false) :: (5, false) :: (6, false) :: (7, false) :: (9, false) :: (8, false) :: (10, false) :: (11, false) :: (12, false) :: (13, false) :: (15, false) :: (14, false) :: (16, false) :: (17, false) :: (18, false) :: (19, false) :: (21, false) :: (20, false) :: (22, false) :: (23, false) :: (24, false) :: (25, false) :: (26, false) :: (27, false) :: (28, false) :: (29, false) :: (30, false) :: (32, false) :: (33, false) :: (34, false) :: (35, false) :: (36, false) :: (31, true) :: (37, false) :: (38, false) :: (39, false) :: []) (fun _ => True) (by kernel_rfl) (by kernel_rfl) (fun _ d _ _ _ h => by cases d <;> exact h) ?_
                repeat (first | (refine WS_w rfl trivial (by rfl) (fun KK hKK => ?_); go_simp; refine hKK _ ?_; clear hKK KK) | (refine WS.s rfl trivial (by rfl) (fun KK hKK => ?_); go_simp; refine hKK _ ?_; clear hKK KK))
                refine WS_c rfl (by rfl) (fun KK hKK => ?_)
                go_simp
                refine (size_calls _ ha _ K _ _ HRD.out).mono ?_
                rintro e w12 ⟨rfl, hb12'⟩
                have HBB := Aside0.mk hb12'
                clear hb12'
                try go_wp2_with (fail)
                refine hKK.out _ _ trivial ?_
                clear hKK KK
                repeat (first | (refine WS_w rfl trivial (by rfl) (fun KK hKK => ?_); go_simp; refine hKK _ ?_; clear hKK KK) | (refine WS.s rfl trivial (by rfl) (fun KK hKK => ?_); go_simp; refine hKK _ ?_; clear hKK KK))
                refine WS.nil ?_
                have HRF := Aside0.mk (HRD.out.below HBB.out)
                have HBF := Aside0.mk (below_weaken HBD.out HBD.out.size HBB.out)
                go_wp2_with (fail)
                go_roundg k1
                case measure => exact Nat.lt_succ_self _
                case rel => exact ⟨x + 1, n + 2 ^ 0, _, _, by go_num, ⟨by have := HI.out; omega⟩, HRF, ⟨HVD.out⟩, HOK11, HBF⟩
            · have htext : Op.text (Op.mk q yw h s true) K = (dgt s K.toNat) := by unfold Op.text; simp
              have hheight : Op.height (Op.mk q yw h s true) = 0 := by unfold Op.height; simp [hq]
              have hsz : (((dgt s K.toNat)).size : Int) = K := by rw [dgt_size]; have := HKI.out; omega
              have q1 : ((((dgt s K.toNat)).size : Int) != K) = false := by simp [hsz]
              by_cases hov : 2 ^ 40 < n + 1
              · have m2 : decide (1099511627776 < (n : Int) + 1) = true := decide_eq_true (by omega)
                have hE : opE K n 0 (dgt s K.toNat) = 30 := by unfold opE; rw [if_neg (by simpa using hsz), if_neg (by simp [Nat.mod_one]), if_pos (by simpa using hov)]
                clear hsz hov
                as_aux_lemma =>
                  have HE := Aside0.mk (show Op.E (Op.mk q yw h s true) K n = 30 from by unfold Op.E; rw [htext, hheight]; exact hE)
                  have HNL := Aside0.mk (nl_nz (Op.mk q yw h s true) (L := L) HE.out)
                  have DC := Aside0.mk (fun {W : World} (hW : Rg W ha (fun j => ok j ∧ j < wr.heap.size) K n L) => show Calls Try.prog 16 #[.pointer (some ⟨ha, 0, none⟩), .agg #[.int .i64 q, .int .i64 yw, .int .i64 h, .string s, .bool true], .int .i64 K] W (Does W ha (fun j => ok j ∧ j < wr.heap.size) K n L (Op.mk q yw h s true)) from does_calls W ha _ K n L (Op.mk q yw h s true) hW HV.out)
                  clear hE htext hheight
                  have HZ8 := Aside0.mk (show wr.heap.size ≤ w8.heap.size from ?hz8)
                  case hz8 => exact HZ8a.out
                  go_wp2_with (first | ((with_reducible refine gate_store (t := 39) (x := .tmp 14) (v := .tmp 69) rfl ?_); refine Sha.wpList_store_row' rfl 39 (.tmp 14) (.tmp 69) rfl w8.heap.size rfl #[.int .u64 n, .string D] rfl _ 39 (blk_new _ _) rfl (by kernel_rfl) (one2 n D) ?_; intro w9 hw9; rw [Sha.setRow_new _ _ _ _ _ rfl] at hw9; rw [← hw9] at HW9 HM9; clear hw9; obtain ⟨c0, c1, c2, c3, c4⟩ := HCK.out w9 HW9.out))
                  refine (digest_calls w9 s K HKI.out.1 HKI.out.2).mono ?_
                  rintro e w10 ⟨rfl, hb10⟩
                  have HRX := Aside0.mk ((HR8.out.below HW9.out).below hb10)
                  have HLX := Aside0.mk ((HL8.out.below HW9.out).below hb10)
                  have HMX := Aside0.mk (show w10.heap[b14]? = some (.cells #[.int .u64 n, .string D] 39 (0, 0)) from by rw [HZ14.out]; exact blk_below HM9.out hb10)
                  have HBX := Aside0.mk (below_weaken (below_weaken HB8.out HB8.out.size HW9.out) (Nat.le_trans HB8.out.size HW9.out.size) hb10)
                  clear c0 c1 c2 c3 c4
                  obtain ⟨c0, c1, c2, c3, c4⟩ := HCK.out w10 (below_weaken HW9.out HW9.out.size hb10)
                  clear hb10
                  go_wp2_with (fail)
                  refine (DC.out HRX.out).mono ?_
                  intro e w11 hD
                  obtain ⟨A11, N11, c11, rfl, hbs, hl, hr, hk⟩ := hD.told
                  rw [HE.out]
                  obtain ⟨eN, eL, eM⟩ := HNL.out
                  rw [eM] at hl
                  rw [eN, eL] at hr
                  have hm14 : w11.heap[b14]? = some (.cells #[.int .u64 n, .string D] 39 (0, 0)) := (hk.keep b14 (blkLt HMX.out) (fun h2 => by have := HZ14.out; have := HZ8.out; have := h2.2; omega)).trans HMX.out
                  have HB11 := Aside0.mk (Kp.old HBX.out HBX.out.size hk (fun j h => HOK.out j h.1))
                  have HR11 := Aside0.mk hr
                  have HL11 := Aside0.mk (HLX.out.next (u := .slice A11 N11 c11) hk)
                  have HOK11 := Aside0.mk (show ∀ j, nx w10 (fun j => ok j ∧ j < wr.heap.size) (.slice A11 N11 c11) j → w.heap.size ≤ j from fun j h => by have := HBX.out.size; rcases h with h | h; exact HOK.out j h.1.1; omega)
                  have e0 : w11.cell? ⟨b14, 0, none⟩ = some (.int .u64 n) := by simp [World.cell?, hm14]
                  have e1 : w11.cell? ⟨b14, 1, none⟩ = some (.string D) := by simp [World.cell?, hm14]
                  obtain ⟨hN11, _, _⟩ := hl.C
                  have hN11' : N11 = 0 := hN11
                  subst hN11'
                  clear hN11
                  clear hl hk hr hD hbs hm14 eN eL eM
                  have HRD := Aside0.mk (show Rg w11.drew ha (nx w10 (fun j => ok j ∧ j < wr.heap.size) (.slice A11 0 c11)) K (n : Int) L from HR11.out.step (fun _ _ _ => rfl))
                  have HBD := Aside0.mk (below_drew HB11.out)
                  have HLD := Aside0.mk (HL11.out.below (below_drew (Below.refl _ w11)))
                  go_wp2_with (fail)
                  rw [← HZ14.out]
                  have hs0 : (fun w' => w'.cell? ⟨b14, 0, none⟩ = some (.int .u64 n) ∧ w'.cell? ⟨b14, 1, none⟩ = some (.string D)) w11.drew := ⟨e0, e1⟩
                  refine region_ws ((0, false) :: (1, false) :: (2, false) :: (3, false) :: (4, false) :: (5, false) :: (6, false) :: (7, false) :: (9, false) :: (8, true) :: (10, false) :: (11, false) :: (12, false) :: (13, false) :: (15, false) :: (14, true) :: (16, false) :: (17, false) :: (18, false) :: (19, false) :: (21, false) :: (20, true) :: (22, true) :: (23, false) :: (24, false) :: (25, false) :: (26, false) :: (27, false) :: (28, false) :: (29, false) :: (30, false) :: (32, false) :: (33, false) :: (34, false) :: (35, false) :: (36, false) :: (31, false) :: (37, false) :: (38, false) :: (39, false) :: []) (fun w' => w'.cell? ⟨b14, 0, none⟩ = some (.int .u64 n) ∧ w'.cell? ⟨b14, 1, none⟩ = some (.string D)) (by kernel_rfl) (by kernel_rfl) (fun _ d _ _ _ h => by cases d <;> exact h) ?_
                  repeat (first | (refine WS_w rfl hs0 (by rfl) (fun KK hKK => ?_); go_simp; refine hKK _ ?_; clear hKK KK) | (refine WS.s rfl hs0 (by rfl) (fun KK hKK => ?_); go_simp; refine hKK _ ?_; clear hKK KK))
                  refine WS_c rfl (by rfl) (fun KK hKK => ?_)
                  go_simp
                  refine (size_calls _ ha _ K _ _ HRD.out).mono ?_
                  rintro e w12 ⟨rfl, hq12⟩
                  have f0 : w12.cell? ⟨b14, 0, none⟩ = some (.int .u64 n) := (hq12.cell (World.block_lt_of_cell? _ _ e0)).trans e0
                  have f1 : w12.cell? ⟨b14, 1, none⟩ = some (.string D) := (hq12.cell (World.block_lt_of_cell? _ _ e1)).trans e1
                  have HR12 := Aside0.mk (HRD.out.below hq12)
                  have HL12 := Aside0.mk (HLD.out.below hq12)
                  have HB12 := Aside0.mk (below_weaken HBD.out HBD.out.size hq12)
                  clear hq12
                  try go_wp2_with (fail)
                  refine hKK.out _ _ ⟨f0, f1⟩ ?_
                  clear hKK KK
                  have hs1 : (fun w' => w'.cell? ⟨b14, 0, none⟩ = some (.int .u64 n) ∧ w'.cell? ⟨b14, 1, none⟩ = some (.string D)) w12 := ⟨f0, f1⟩
                  repeat (first | (refine WS_w rfl hs1 (by rfl) (fun KK hKK => ?_); go_simp; refine hKK _ ?_; clear hKK KK) | (refine WS.s rfl hs1 (by rfl) (fun KK hKK => ?_); go_simp; refine hKK _ ?_; clear hKK KK))
                  refine WS.l (.agg #[.int .u64 n, .string D]) rfl hs1 (by rfl) (fun w0 hSw => ?_) (fun KK hKK => ?_)
                  · (obtain ⟨o0, o1⟩ := hSw; clear e0 e1 f0 f1 hs0 hs1; go_simp; try rfl)
                  go_simp
                  refine hKK _ ?_
                  clear hKK KK
                  refine WS_c rfl (by rfl) (fun KK hKK => ?_)
                  go_simp
                  refine (root_calls 100 _ ha _ K n L D HR12.out HRT.out).mono ?_
                  rintro e w13 ⟨rfl, hq13⟩
                  have g0 : w13.cell? ⟨b14, 0, none⟩ = some (.int .u64 n) := (hq13.cell (World.block_lt_of_cell? _ _ f0)).trans f0
                  have g1 : w13.cell? ⟨b14, 1, none⟩ = some (.string D) := (hq13.cell (World.block_lt_of_cell? _ _ f1)).trans f1
                  have HR13 := Aside0.mk (HR12.out.below hq13)
                  have HL13 := Aside0.mk (HL12.out.below hq13)
                  have HB13 := Aside0.mk (below_weaken HB12.out HB12.out.size hq13)
                  clear hq13
                  try go_wp2_with (fail)
                  refine hKK.out _ _ ⟨g0, g1⟩ ?_
                  clear hKK KK
                  have hs2 : (fun w' => w'.cell? ⟨b14, 0, none⟩ = some (.int .u64 n) ∧ w'.cell? ⟨b14, 1, none⟩ = some (.string D)) w13 := ⟨g0, g1⟩
                  repeat (first | (refine WS_w rfl hs2 (by rfl) (fun KK hKK => ?_); go_simp; refine hKK _ ?_; clear hKK KK) | (refine WS.s rfl hs2 (by rfl) (fun KK hKK => ?_); go_simp; refine hKK _ ?_; clear hKK KK))
                  refine WS_c rfl (by rfl) (fun KK hKK => ?_)
                  go_simp
                  refine (peaks_calls _ ha _ K n L HR13.out HLN.out).mono ?_
                  rintro e w14 ⟨v14, rfl, hr14, hq14⟩
                  obtain ⟨A14, c14, e14, hcc14, hC14⟩ := Kd.R_reads hr14
                  subst e14
                  have i0 : w14.cell? ⟨b14, 0, none⟩ = some (.int .u64 n) := (hq14.cell (World.block_lt_of_cell? _ _ g0)).trans g0
                  have i1 : w14.cell? ⟨b14, 1, none⟩ = some (.string D) := (hq14.cell (World.block_lt_of_cell? _ _ g1)).trans g1
                  have HR14 := Aside0.mk (HR13.out.below hq14)
                  have HL14 := Aside0.mk (HL13.out.below hq14).C
                  have HC14 := Aside0.mk (And.intro hcc14 hC14)
                  have HB14 := Aside0.mk (below_weaken HB13.out HB13.out.size hq14)
                  clear hr14 hcc14 hC14 hq14
                  try go_wp2_with (fail)
                  refine hKK.out _ _ ⟨i0, i1⟩ ?_
                  clear hKK KK
                  refine WS_c rfl (by rfl) (fun KK hKK => ?_)
                  go_simp
                  refine (massiflaw09_same.calls 1000 A14 c14 L A6 c6 L true _ HC14.out.2 HC14.out.1 HL14.out.2.2 HL14.out.2.1 (massiflaw09_same.is 1000 L (Nat.le_trans HLN.out (by decide)) HLN2.out)).mono ?_
                  rintro e w15 ⟨rfl, hd15⟩
                  have j0 : w15.cell? ⟨b14, 0, none⟩ = some (.int .u64 n) := (hd15.below.cell (World.block_lt_of_cell? _ _ i0)).trans i0
                  have j1 : w15.cell? ⟨b14, 1, none⟩ = some (.string D) := (hd15.below.cell (World.block_lt_of_cell? _ _ i1)).trans i1
                  have HRF := Aside0.mk (HR14.out.below hd15.below)
                  have HBF := Aside0.mk (below_weaken HB14.out HB14.out.size hd15.below)
                  clear hd15
                  try go_wp2_with (fail)
                  refine hKK.out _ _ ⟨j0, j1⟩ ?_
                  clear hKK KK
                  have hs3 : (fun w' => w'.cell? ⟨b14, 0, none⟩ = some (.int .u64 n) ∧ w'.cell? ⟨b14, 1, none⟩ = some (.string D)) w15 := ⟨j0, j1⟩
                  repeat (first | (refine WS_w rfl hs3 (by rfl) (fun KK hKK => ?_); go_simp; refine hKK _ ?_; clear hKK KK) | (refine WS.s rfl hs3 (by rfl) (fun KK hKK => ?_); go_simp; refine hKK _ ?_; clear hKK KK))
                  refine WS.nil ?_
                  clear hs0 hs1 hs2 hs3 e0 e1 f0 f1 g0 g1 i0 i1 j0 j1
                  go_wp2_with (fail)
                  go_roundg k1
                  case measure => exact Nat.lt_succ_self _
                  case rel => exact ⟨x + 1, n, L, _, by go_num, ⟨by have := HI.out; omega⟩, HRF, ⟨HV.out⟩, HOK11, HBF⟩
              have m2 : decide (1099511627776 < (n : Int) + 1) = false := decide_eq_false (by omega)
              have hE : opE K n 0 (dgt s K.toNat) = 0 := by unfold opE; rw [if_neg (by simpa using hsz), if_neg (by simp [Nat.mod_one]), if_neg (by simpa using hov)]
              clear hsz hov
              as_aux_lemma =>
                have HE := Aside0.mk (show Op.E (Op.mk q yw h s true) K n = 0 from by unfold Op.E; rw [htext, hheight]; exact hE)
                have HNL := Aside0.mk (nl_z (Op.mk q yw h s true) (L := L) (g := 0) HE.out (hheight.trans rfl))
                have DC := Aside0.mk (fun {W : World} (hW : Rg W ha (fun j => ok j ∧ j < wr.heap.size) K n L) => show Calls Try.prog 16 #[.pointer (some ⟨ha, 0, none⟩), .agg #[.int .i64 q, .int .i64 yw, .int .i64 h, .string s, .bool true], .int .i64 K] W (Does W ha (fun j => ok j ∧ j < wr.heap.size) K n L (Op.mk q yw h s true)) from does_calls W ha _ K n L (Op.mk q yw h s true) hW HV.out)
                clear hE htext hheight
                have HZ8 := Aside0.mk (show wr.heap.size ≤ w8.heap.size from ?hz8)
                case hz8 => exact HZ8a.out
                go_wp2_with (first | ((with_reducible refine gate_store (t := 39) (x := .tmp 14) (v := .tmp 69) rfl ?_); refine Sha.wpList_store_row' rfl 39 (.tmp 14) (.tmp 69) rfl w8.heap.size rfl #[.int .u64 n, .string D] rfl _ 39 (blk_new _ _) rfl (by kernel_rfl) (one2 n D) ?_; intro w9 hw9; rw [Sha.setRow_new _ _ _ _ _ rfl] at hw9; rw [← hw9] at HW9 HM9; clear hw9; obtain ⟨c0, c1, c2, c3, c4⟩ := HCK.out w9 HW9.out))
                refine (digest_calls w9 s K HKI.out.1 HKI.out.2).mono ?_
                rintro e w10 ⟨rfl, hb10⟩
                have HRX := Aside0.mk ((HR8.out.below HW9.out).below hb10)
                have HLX := Aside0.mk ((HL8.out.below HW9.out).below hb10)
                have HMX := Aside0.mk (show w10.heap[b14]? = some (.cells #[.int .u64 n, .string D] 39 (0, 0)) from by rw [HZ14.out]; exact blk_below HM9.out hb10)
                have HBX := Aside0.mk (below_weaken (below_weaken HB8.out HB8.out.size HW9.out) (Nat.le_trans HB8.out.size HW9.out.size) hb10)
                clear c0 c1 c2 c3 c4
                obtain ⟨c0, c1, c2, c3, c4⟩ := HCK.out w10 (below_weaken HW9.out HW9.out.size hb10)
                clear hb10
                go_wp2_with (fail)
                refine (DC.out HRX.out).mono ?_
                intro e w11 hD
                obtain ⟨A11, N11, c11, rfl, hbs, hl, hr, hk⟩ := hD.told
                rw [HE.out]
                have HVD := Aside0.mk (show Inv K (n + 2 ^ 0) (Op.L (Op.mk q yw h s true) K n L) from by have h := HV.out.does (Op.mk q yw h s true); rw [HNL.out.1] at h; exact h)
                obtain ⟨eN, eL, eM⟩ := HNL.out
                rw [eN] at hr
                have hm14 : w11.heap[b14]? = some (.cells #[.int .u64 n, .string D] 39 (0, 0)) := (hk.keep b14 (blkLt HMX.out) (fun h2 => by have := HZ14.out; have := HZ8.out; have := h2.2; omega)).trans HMX.out
                have HB11 := Aside0.mk (Kp.old HBX.out HBX.out.size hk (fun j h => HOK.out j h.1))
                have HR11 := Aside0.mk hr
                have HL11 := Aside0.mk (HLX.out.next (u := .slice A11 N11 c11) hk)
                have HOK11 := Aside0.mk (show ∀ j, nx w10 (fun j => ok j ∧ j < wr.heap.size) (.slice A11 N11 c11) j → w.heap.size ≤ j from fun j h => by have := HBX.out.size; rcases h with h | h; exact HOK.out j h.1.1; omega)
                have e0 : w11.cell? ⟨b14, 0, none⟩ = some (.int .u64 n) := by simp [World.cell?, hm14]
                have e1 : w11.cell? ⟨b14, 1, none⟩ = some (.string D) := by simp [World.cell?, hm14]
                clear hl hk hr hD hbs hm14 eN eL eM
                have HRD := Aside0.mk (show Rg w11.drew ha (nx w10 (fun j => ok j ∧ j < wr.heap.size) (.slice A11 N11 c11)) K ((n + 2 ^ 0 : Nat) : Int) (Op.L (Op.mk q yw h s true) K n L) from HR11.out.step (fun _ _ _ => rfl))
                have HBD := Aside0.mk (below_drew HB11.out)
                go_wp2_with (fail)
                rw [← HZ14.out]
                have b1 : 0 ≤ (n : Int) + 1 ∧ (n : Int) + 1 ≤ 18446744073709551615 := by have := HV.out.n1; omega
                have w1 : IntKind.u64.wrap ((n : Int) + 1) = (n : Int) + 1 := IntWalk.u64_in _ b1
                have w2 : IntKind.u64.wrap 0 = 0 := IntWalk.u64_in _ (by decide)
                have w3 : IntKind.u64.wrap 1 = 1 := IntWalk.u64_in _ (by decide)
                clear b1
                refine region_ws ((0, false) :: (1, false) :: (2, false) :: (3, false) :: (4, false) :: (5, false) :: (6, false) :: (7, false) :: (9, false) :: (8, false) :: (10, false) :: (11, false) :: (12, false) :: (13, false) :: (15, false) :: (14, false) :: (16, false) :: (17, false) :: (18, false) :: (19, false) :: (21, false) :: (20, false) :: (22, false) :: (23, false) :: (24, false) :: (25, false) :: (26, false) :: (27, false) :: (28, false) :: (29, false) :: (30, false) :: (32, false) :: (33, false) :: (34, false) :: (35, false) :: (36, false) :: (31, true) :: (37, false) :: (38, false) :: (39, false) :: []) (fun _ => True) (by kernel_rfl) (by kernel_rfl) (fun _ d _ _ _ h => by cases d <;> exact h) ?_
                repeat (first | (refine WS_w rfl trivial (by rfl) (fun KK hKK => ?_); go_simp; refine hKK _ ?_; clear hKK KK) | (refine WS.s rfl trivial (by rfl) (fun KK hKK => ?_); go_simp; refine hKK _ ?_; clear hKK KK))
                refine WS_c rfl (by rfl) (fun KK hKK => ?_)
                go_simp
                refine (size_calls _ ha _ K _ _ HRD.out).mono ?_
                rintro e w12 ⟨rfl, hb12'⟩
                have HBB := Aside0.mk hb12'
                clear hb12'
                try go_wp2_with (fail)
                refine hKK.out _ _ trivial ?_
                clear hKK KK
                repeat (first | (refine WS_w rfl trivial (by rfl) (fun KK hKK => ?_); go_simp; refine hKK _ ?_; clear hKK KK) | (refine WS.s rfl trivial (by rfl) (fun KK hKK => ?_); go_simp; refine hKK _ ?_; clear hKK KK))
                refine WS.nil ?_
                have HRF := Aside0.mk (HRD.out.below HBB.out)
                have HBF := Aside0.mk (below_weaken HBD.out HBD.out.size HBB.out)
                go_wp2_with (fail)
                go_roundg k1
                case measure => exact Nat.lt_succ_self _
                case rel => exact ⟨x + 1, n + 2 ^ 0, _, _, by go_num, ⟨by have := HI.out; omega⟩, HRF, ⟨HVD.out⟩, HOK11, HBF⟩
        · have hends2 : (decide ((x : Int) < (l2.length : Int)) = false ∧ decide (x < l2.length) = false) ∨ ((decide ((x : Int) < (l2.length : Int)) = true ∧ decide (x < l2.length) = true) ∧ decide ((x : Int) < 60) = false ∧ decide (x < 60) = false) := by
            by_cases h : x < l2.length
            · exact .inr ⟨⟨decide_eq_true (by omega), decide_eq_true h⟩, decide_eq_false (by omega), decide_eq_false (by omega)⟩
            · exact .inl ⟨decide_eq_false (by omega), decide_eq_false h⟩
          have hi64 : (x : Int) ≤ 9223372036854775807 := by have := HI.out; have := HLL.out; omega
          clear hgo
          rcases hends2 with ⟨hmt, hmt'⟩ | ⟨⟨hmt, hmt'⟩, hmu, hmu'⟩
          all_goals
            go_wp2_with (fail)
            go_ret
            exact ⟨rfl, HB.out⟩
end Go.Proofs.Ytdclafjgfnbibaa.Pk
