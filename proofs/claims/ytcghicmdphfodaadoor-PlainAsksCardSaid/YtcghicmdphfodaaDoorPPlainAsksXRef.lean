/- massifref01.Of: of any parts the sum of the text that they make. No condition beyond those that each theorem names. -/
import Derived.Test.YtcghicmdphfodaaDoorRf1
import Derived.Test.YtcghicmdphfodaaDoorMB
import Derived.Test.YtcghicmdphfodaaDoorPPlainAsksx0
import Derived.Test.YtcghicmdphfodaaDoorPPlainAsksx5
set_option linter.unusedVariables false
set_option linter.unusedSimpArgs false
namespace Go.Proofs.YtcghicmdphfodaaDoor.Sha
open Go.RowKit Go.Proofs.YtcghicmdphfodaaDoorW.PrintWords Go.Proofs.YtcghicmdphfodaaDoorW.PrintLast Go.Proofs.YtcghicmdphfodaaDoorW.PrintMore Go.Proofs.YtcghicmdphfodaaDoor.Wq Go.Proofs.YtcghicmdphfodaaDoor.Ws Go.Proofs.YtcghicmdphfodaaDoor.PPlainAsks
theorem bI_append (s t : ByteArray) : bI (s ++ t) = bI s ++ bI t := by unfold bI; simp [ByteArray.data_append]
theorem oper_store_row {P : Program} {o : Oper} {a : Act} {w : World} {K : Act → World → Prop} {Q : Exit → Act → World → Prop} (ty : TypeId) (x v : Operand) (ho : o.op = .store ty x v) (g : Nat) (hx : a.eval x = .pointer (some ⟨g, 0, none⟩)) (cs : Array Value) (hv : a.eval v = .agg cs)
    (cur : Array Value) (t : TypeId) (hg : w.heap[g]? = some (.cells cur t (0, 0))) (hsz : cur.size = cs.size) (hi : (P.info? ty).map (·.size) = some cs.size) (h1 : ∀ v ∈ cs.toList, v.oneCell' = true)
    (h : ∀ w1, w1 = w.setRow g cs → K (a.put o.dst undef) w1) : o.wp P a w K Q := by
  unfold Oper.wp execOp
  simp only [ho, hx, hv, Sem.run_bind, run_store_row P w ty g cs cur t hg hsz hi h1, Result.andThen_ok, Sem.run_pure]
  exact h _ rfl
/-- The bytes ahead of the number: one of 128, and as many zeros as it takes. -/
def ends (i : Nat) : List Int := 128 :: List.replicate i 0
theorem ends_len (i : Nat) : (ends i).length = i + 1 := by simp [ends]
theorem ends_succ (i : Nat) : ends i ++ [0] = ends (i + 1) := by unfold ends; rw [List.cons_append, ← List.replicate_succ']
theorem one_R (w : World) (b : Nat) (hb : b ≤ w.heap.size) : (Kd.int .u8).R 5 (w.alloc (.cells #[.int .u8 128] 5)) b (fun j => b ≤ j) (.slice (some ⟨w.heap.size, 0, none⟩) 1 1) (ends 0) := by
  have h2 := World.ownsRow_lit (base := w.heap.size) (e := 5) (size := 1) w #[.int .u8 128] 1 (Nat.le_refl _) (by simp [maxLen]) (by simp)
  exact Kd.R_lower (Kd.R_of_own (enc := Value.int .u8) (h1 := fun _ => rfl) (xs := ends 0) (by simpa [encs, ends] using h2) (fun k hk => by cases hk; exact hb)) hb
theorem str_app (X Y : List Int) : strOfNums X ++ strOfNums Y = strOfNums (X ++ Y) := by
  unfold strOfNums
  apply ByteArray.ext
  simp [ByteArray.data_append]
theorem str_len (X : List Int) : (strOfNums X).size = X.length := by unfold strOfNums; simp [ByteArray.size]
theorem big_step (k : Nat) (x : Int) (L : List Int) (j : Nat) (hj : j < L.length) (hL : L.length ≤ 100) (hx : 0 ≤ x ∧ x < 18446744073709551616) : massifref01_Big.l0 (k + 1) x L (j : Int) = massifref01_Big.l0 k (x / 256) (L.set j (x % 256)) ((j : Int) - 1) := by
  rw [massifref01_Big.l0, if_pos (by omega), if_pos (by omega), if_pos (by omega)]
  rw [Int.tdiv_eq_ediv_of_nonneg hx.1, Int.tmod_eq_emod_of_nonneg hx.1, Int.toNat_natCast]
  rw [MB.wrap_u64_in _ (by omega) (by omega), Int.emod_emod]
  rw [MB.wrap64_in _ (by omega) (by omega)]
theorem big_end (k : Nat) (x : Int) (L : List Int) (j : Int) (hj : j = -1) : massifref01_Big.l0 (k + 1) x L j = some (strOfNums L) := by
  rw [massifref01_Big.l0, if_neg (by omega)]
theorem big8 (x : Int) (hx : 0 ≤ x ∧ x < 18446744073709551616) : massifref01_Big.f 20 x 8 = some (strOfNums [x / 2 ^ 56 % 256, x / 2 ^ 48 % 256, x / 2 ^ 40 % 256, x / 2 ^ 32 % 256, x / 2 ^ 24 % 256, x / 2 ^ 16 % 256, x / 2 ^ 8 % 256, x % 256]) := by
  unfold massifref01_Big.f
  rw [if_pos (by decide), if_pos (by decide), show wrap64 ((8 : Int) - 1) = ((7 : Nat) : Int) from (MB.wrap64_in _ (by omega) (by omega)).trans (by omega)]
  rw [show List.replicate (8 : Int).toNat (0 : Int) = [0, 0, 0, 0, 0, 0, 0, 0] from rfl]
  rw [big_step _ _ _ 7 (by simp) (by simp) hx]
  rw [show ((7 : Nat) : Int) - 1 = ((6 : Nat) : Int) from rfl, big_step _ _ _ 6 (by simp) (by simp) (by omega)]
  rw [show ((6 : Nat) : Int) - 1 = ((5 : Nat) : Int) from rfl, big_step _ _ _ 5 (by simp) (by simp) (by omega)]
  rw [show ((5 : Nat) : Int) - 1 = ((4 : Nat) : Int) from rfl, big_step _ _ _ 4 (by simp) (by simp) (by omega)]
  rw [show ((4 : Nat) : Int) - 1 = ((3 : Nat) : Int) from rfl, big_step _ _ _ 3 (by simp) (by simp) (by omega)]
  rw [show ((3 : Nat) : Int) - 1 = ((2 : Nat) : Int) from rfl, big_step _ _ _ 2 (by simp) (by simp) (by omega)]
  rw [show ((2 : Nat) : Int) - 1 = ((1 : Nat) : Int) from rfl, big_step _ _ _ 1 (by simp) (by simp) (by omega)]
  rw [show ((1 : Nat) : Int) - 1 = ((0 : Nat) : Int) from rfl, big_step _ _ _ 0 (by simp) (by simp) (by omega)]
  rw [big_end _ _ _ _ (by rfl)]
  simp only [List.set_cons_zero, List.set_cons_succ]
  congr 2
  simp only [List.cons.injEq, and_true]
  refine ⟨?_, ?_, ?_, ?_, ?_, ?_, ?_⟩ <;> omega
theorem big4 (x : Int) (hx : 0 ≤ x ∧ x < 4294967296) : massifref01_Big.f 20 x 4 = some (strOfNums [x / 2 ^ 24 % 256, x / 2 ^ 16 % 256, x / 2 ^ 8 % 256, x % 256]) := by
  unfold massifref01_Big.f
  rw [if_pos (by decide), if_pos (by decide), show wrap64 ((4 : Int) - 1) = ((3 : Nat) : Int) from (MB.wrap64_in _ (by omega) (by omega)).trans (by omega)]
  rw [show List.replicate (4 : Int).toNat (0 : Int) = [0, 0, 0, 0] from rfl]
  rw [big_step _ _ _ 3 (by simp) (by simp) (by omega)]
  rw [show ((3 : Nat) : Int) - 1 = ((2 : Nat) : Int) from rfl, big_step _ _ _ 2 (by simp) (by simp) (by omega)]
  rw [show ((2 : Nat) : Int) - 1 = ((1 : Nat) : Int) from rfl, big_step _ _ _ 1 (by simp) (by simp) (by omega)]
  rw [show ((1 : Nat) : Int) - 1 = ((0 : Nat) : Int) from rfl, big_step _ _ _ 0 (by simp) (by simp) (by omega)]
  rw [big_end _ _ _ _ (by rfl)]
  simp only [List.set_cons_zero, List.set_cons_succ]
  congr 2
  simp only [List.cons.injEq, and_true]
  refine ⟨?_, ?_, ?_⟩ <;> omega
theorem tl_get (n : Nat) (z : Int) (hn : n ≤ 64) : ∀ m, m ≤ 8 → ∀ i, i < 72 → (tl n z m)[i]? = if n ≤ i ∧ i < n + m then some (padb z (i - n)) else (tl n z 0)[i]?
  | 0, _, i, _ => by rw [if_neg (by omega)]
  | m + 1, hm, i, hi => by
    rw [show tl n z (m + 1) = (tl n z m).set (n + m) (padb z m) from rfl, List.getElem?_set]
    by_cases e : n + m = i
    · rw [if_pos e, if_pos (by rw [tl_len]; omega), if_pos (by omega), ← e, show n + m - n = m from by omega]
    · rw [if_neg e, tl_get n z hn m (by omega) i hi]
      by_cases c : n ≤ i ∧ i < n + m
      · rw [if_pos c, if_pos (by omega)]
      · rw [if_neg c, if_neg (by omega)]
theorem tail_is (f : Nat) (z : Int) : tail f z = ends (padn f - 1) ++ [padb z 0, padb z 1, padb z 2, padb z 3, padb z 4, padb z 5, padb z 6, padb z 7] := by
  have h1 : 1 ≤ padn f ∧ padn f ≤ 64 := by unfold padn; omega
  obtain ⟨p, hp⟩ : ∃ p, p = padn f := ⟨_, rfl⟩
  unfold tail
  rw [← hp] at h1 ⊢
  apply List.ext_getElem?
  intro i
  by_cases hi : i < p + 8
  · rw [List.getElem?_take_of_lt hi, tl_get p z h1.2 8 (Nat.le_refl _) i (by omega)]
    by_cases c : p ≤ i
    · rw [if_pos ⟨c, hi⟩, List.getElem?_append_right (by rw [ends_len]; omega), ends_len, show i - (p - 1 + 1) = i - p from by omega]
      obtain ⟨j, hj⟩ : ∃ j, j = i - p := ⟨_, rfl⟩
      rw [← hj]
      have hj8 : j < 8 := by omega
      match j, hj8 with
      | 0, _ => rfl
      | 1, _ => rfl
      | 2, _ => rfl
      | 3, _ => rfl
      | 4, _ => rfl
      | 5, _ => rfl
      | 6, _ => rfl
      | 7, _ => rfl
      | n + 8, h => exact absurd h (by omega)
    · rw [if_neg (by omega), List.getElem?_append_left (by rw [ends_len]; omega)]
      unfold ends tl
      cases i with
      | zero => rfl
      | succ i => rw [List.getElem?_cons_succ, List.getElem?_cons_succ, List.getElem?_replicate, List.getElem?_replicate, if_pos (by omega), if_pos (by omega)]
  · rw [List.getElem?_eq_none (by rw [List.length_take, tl_len]; omega), List.getElem?_eq_none (by rw [List.length_append, ends_len]; simp; omega)]
theorem a32_range (x y : Int) : 0 ≤ a32 x y ∧ a32 x y < 4294967296 := by unfold a32; omega
theorem stB_range (M : List Int) : ∀ n j, j < 8 → 0 ≤ (stB M n).getD j 0 ∧ (stB M n).getD j 0 < 4294967296
  | 0, j, hj => by
    match j, hj with
    | 0, _ => (show 0 ≤ H8.getD 0 0 ∧ H8.getD 0 0 < 4294967296; decide)
    | 1, _ => (show 0 ≤ H8.getD 1 0 ∧ H8.getD 1 0 < 4294967296; decide)
    | 2, _ => (show 0 ≤ H8.getD 2 0 ∧ H8.getD 2 0 < 4294967296; decide)
    | 3, _ => (show 0 ≤ H8.getD 3 0 ∧ H8.getD 3 0 < 4294967296; decide)
    | 4, _ => (show 0 ≤ H8.getD 4 0 ∧ H8.getD 4 0 < 4294967296; decide)
    | 5, _ => (show 0 ≤ H8.getD 5 0 ∧ H8.getD 5 0 < 4294967296; decide)
    | 6, _ => (show 0 ≤ H8.getD 6 0 ∧ H8.getD 6 0 < 4294967296; decide)
    | 7, _ => (show 0 ≤ H8.getD 7 0 ∧ H8.getD 7 0 < 4294967296; decide)
    | n + 8, h => exact absurd h (by omega)
  | n + 1, j, hj => by
    rw [stB, mixS, addS_get _ _ _ _ hj, if_pos hj]; exact a32_range _ _
theorem out_range (S : List Int) : ∀ m, m ≤ 32 → outN S m = (List.range m).map (obyte S) ++ List.replicate (32 - m) 0
  | 0, _ => by simp [outN]
  | m + 1, h => by
    rw [outN, out_range S m (by omega), List.set_append_right _ _ (by simp), List.length_map, List.length_range, Nat.sub_self, show 32 - m = (32 - (m + 1)) + 1 from by omega, List.replicate_succ, List.set_cons_zero, List.range_succ, List.map_append, List.append_assoc]
    rfl
theorem obytes (S : List Int) (i : Nat) : [S.getD i 0 / 2 ^ 24 % 256, S.getD i 0 / 2 ^ 16 % 256, S.getD i 0 / 2 ^ 8 % 256, S.getD i 0 % 256] = [obyte S (4 * i), obyte S (4 * i + 1), obyte S (4 * i + 2), obyte S (4 * i + 3)] := by
  unfold obyte
  rw [show 4 * i / 4 = i from by omega, show (4 * i + 1) / 4 = i from by omega, show (4 * i + 2) / 4 = i from by omega, show (4 * i + 3) / 4 = i from by omega, show 4 * i % 4 = 0 from by omega, show (4 * i + 1) % 4 = 1 from by omega, show (4 * i + 2) % 4 = 2 from by omega, show (4 * i + 3) % 4 = 3 from by omega]
  simp
theorem range4 (g : Nat → Int) (i : Nat) : (List.range (4 * i)).map g ++ [g (4 * i), g (4 * i + 1), g (4 * i + 2), g (4 * i + 3)] = (List.range (4 * (i + 1))).map g := by
  rw [show 4 * (i + 1) = 4 * i + 1 + 1 + 1 + 1 from by omega, List.range_succ, List.range_succ, List.range_succ, List.range_succ]
  simp
theorem blk_extract (s : ByteArray) (m : Nat) : bI (s.extract (64 * m) (64 * m + 64)) = blk (bI s) m := by
  unfold bI blk
  rw [ByteArray.data_extract, Array.toList_extract, List.extract_eq_take_drop, List.map_take, List.map_drop]
  congr 1
  omega
attribute [local go_sem] Go.Proofs.YtcghicmdphfodaaDoor.Ws.yq Go.Proofs.YtcghicmdphfodaaDoor.Ws.yAt
set_option maxHeartbeats 8000000 in
set_option maxRecDepth 100000 in
theorem rof_calls (A : Option Addr) (c : Nat) (l : List ByteArray) (w : World) (hr : Kd.C Kd.string w A l.length l) (hcc : l.length ≤ c) (hl : (l.flatMap bI).length ≤ 4611686018427387904) (hg : Gl w) :
    Calls Tryd.prog 12 #[.slice A l.length c] w fun e w' => e = .returned (.string (sha (l.flatMap bI))) ∧ Below w.heap.size w w' := by
  have HR := Aside0.mk hr
  have HL := Aside0.mk hl
  have HG := Aside0.mk hg
  have HM := Aside0.mk hr.2.1
  have HSP := Aside0.mk (show ∀ i, ((l.take i).flatMap bI).length ≤ (l.flatMap bI).length from fun i => by
    conv => rhs; rw [← List.take_append_drop i l]
    rw [List.flatMap_append, List.length_append]; omega)
  clear hr hl hcc hg
  go_enter Tryd.func12, Tryd.ntmps12
  go_wp2_with (fail)
  go_loopg [3, 4] l.length (fun kq v3 v4 w' => ∃ (i : Nat) (x : ByteArray), v3 = .string x ∧ v4 = .int .i64 (i : Int) ∧ Aside0 (i + kq = l.length) ∧ Aside0 (bI x = (l.take i).flatMap bI) ∧ Aside0 (Below w.heap.size w w'))
  case atStart => exact ⟨0, ⟨#[]⟩, by rfl, by rfl, ⟨by omega⟩, ⟨by rfl⟩, ⟨Below.refl _ _⟩⟩
  case round =>
    obtain ⟨i, x, rfl, rfl, HI, HX, HB⟩ := hrel
    cases gk with
    | zero =>
      have hlt : decide (i < l.length) = false := decide_eq_false (by have := HI.out; omega)
      have hXM : bI x = l.flatMap bI := by rw [HX.out, List.take_of_length_le (by have := HI.out; omega)]
      obtain ⟨M, hM⟩ : ∃ M, M = l.flatMap bI := ⟨_, rfl⟩
      rw [← hM] at hXM HL
      have hsz : x.size = M.length := by rw [← hXM, bI_len]
      have HXM := Aside0.mk hXM
      have HMM := Aside0.mk hM
      obtain ⟨n, hn⟩ : ∃ n : Nat, n = x.size := ⟨_, rfl⟩
      have HN := Aside0.mk (And.intro hn (show n = M.length from by omega))
      have hnl : n ≤ 4611686018427387904 := by have := HL.out; omega
      have HNL := Aside0.mk hnl
      clear hM hXM hsz HX HSP hn hnl
      go_wp2_with (fail)
      obtain ⟨w1, hw1⟩ : ∃ x, x = wr.alloc (.cells #[.int .u8 128] 5) := ⟨_, rfl⟩
      have HR1 := Aside0.mk (show (Kd.int .u8).R 5 w1 w.heap.size (fun j => w.heap.size ≤ j) (.slice (some ⟨wr.heap.size, 0, none⟩) 1 1) (ends 0) from by rw [hw1]; exact one_R wr _ HB.out.size)
      have HB1 := Aside0.mk (show Below w.heap.size w w1 from by rw [hw1]; exact below_alloc HB.out _)
      rw [← hw1]
      obtain ⟨g1, hg1⟩ : ∃ x, x = wr.heap.size := ⟨_, rfl⟩
      rw [← hg1] at HR1 ⊢
      obtain ⟨P, hP⟩ : ∃ P, P = padn (n % 64) := ⟨_, rfl⟩
      have HP := Aside0.mk hP
      have HP1 := Aside0.mk (show 1 ≤ P ∧ P ≤ 64 ∧ (n + P + 8) % 64 = 0 from by rw [hP]; unfold padn; omega)
      clear hw1 hg1 hP HB
      go_loopg [5] (P - 1) (fun kq v5 w' => ∃ (q A c : Nat), v5 = .slice (some ⟨A, 0, none⟩) q c ∧ Aside0 (1 ≤ q ∧ q + kq = P) ∧ Aside0 ((Kd.int .u8).R 5 w' w.heap.size (fun j => w.heap.size ≤ j) (.slice (some ⟨A, 0, none⟩) q c) (ends (q - 1))) ∧ Aside0 (Below w.heap.size w w'))
      case atStart => exact ⟨1, g1, 1, by rfl, ⟨by have := HP1.out; omega⟩, HR1, HB1⟩
      case round =>
        obtain ⟨q, A5, c5, rfl, HI, HE, HB⟩ := hrel
        have u1 : wrap64 ((x.size : Int) + (q : Int)) = (x.size : Int) + (q : Int) := MB.wrap64_in _ (by omega) (by have h1 := HI.out; have h2 := HP1.out; have h3 := HNL.out; have h4 := HN.out; omega)
        have u2 : wrap64 ((x.size : Int) + (q : Int) + 8) = (x.size : Int) + (q : Int) + 8 := MB.wrap64_in _ (by omega) (by have h1 := HI.out; have h2 := HP1.out; have h3 := HNL.out; have h4 := HN.out; omega)
        obtain ⟨r, hr⟩ : ∃ r : Int, ((x.size : Int) + (q : Int) + 8).tmod 64 = r := ⟨_, rfl⟩
        have hr2 : r = ((x.size : Int) + (q : Int) + 8) % 64 := by rw [← hr, Int.tmod_eq_emod_of_nonneg (by omega)]
        have HQ := Aside0.mk hr2
        clear hr2
        cases gk with
        | zero =>
          have hr0 : r = 0 := by have h1 := HI.out; have h2 := HP1.out; have h4 := HN.out; have h5 := HQ.out; clear u1 u2; omega
          subst hr0
          have hqP : q = P := by have h1 := HI.out; omega
          subst hqP
          go_wp2_with (fail)
          clear u1 u2
          obtain ⟨E, hE⟩ : ∃ E, E = strOfNums (ends (q - 1)) := ⟨_, rfl⟩
          have hEz : E.size = q := by rw [hE, str_len, ends_len]; have := HI.out; omega
          have hcv : ∀ d os, (convert 30 9 (.slice (some ⟨A5, 0, none⟩) q c5)).run Tryd.prog (Go.Sort.grow (redrawn wr d) os) = .ok (.string E) (Go.Sort.grow (redrawn wr d) os) := fun d os => by rw [hE]; exact own_string (P := Tryd.prog) Tryd.underlying30 Tryd.underlying5 Tryd.underlying9 (Kd.own_of_R (Kd.R_below HE.out (below_regrown wr d os)))
          have g1 : (9223372036854775807 < x.size + E.size) = False := eq_false (by have h1 := HP1.out; have h3 := HNL.out; have h4 := HN.out; omega)
          have g2 : (x ++ E).size = n + q := by rw [ByteArray.size_append, hEz]; have := HN.out; omega
          obtain ⟨N8, hN8⟩ : ∃ N8 : Int, IntKind.u64.wrap (8 * (n : Int)) = N8 := ⟨_, rfl⟩
          have hNr : 0 ≤ N8 ∧ N8 < 18446744073709551616 := by rw [← hN8, show IntKind.u64.wrap (8 * (n : Int)) = 8 * (n : Int) % 18446744073709551616 from by simp [IntKind.wrap, IntKind.bits, IntKind.signed]]; omega
          have hn8 : IntKind.u64.wrap (n : Int) = n := MB.wrap_u64_in _ (by omega) (by have h3 := HNL.out; omega)
          obtain ⟨D, hD⟩ : ∃ D, D = strOfNums [N8 / 2 ^ 56 % 256, N8 / 2 ^ 48 % 256, N8 / 2 ^ 40 % 256, N8 / 2 ^ 32 % 256, N8 / 2 ^ 24 % 256, N8 / 2 ^ 16 % 256, N8 / 2 ^ 8 % 256, N8 % 256] := ⟨_, rfl⟩
          have hDz : D.size = 8 := by rw [hD, str_len]; rfl
          have cM : ∀ d os, Calls Tryd.prog 50 #[.int .u64 N8, .int .i64 8] (Go.Sort.grow (redrawn wr d) os) fun e w'' => e = .returned (.string D) ∧ ∃ p : Regrown, w'' = Go.Sort.grow (redrawn wr p.d) p.os := fun d os => Calls.regrown_of (massifref01_Big.calls 20 N8 8 D _ (by rw [hD]; exact big8 N8 hNr))
          have g3 : (9223372036854775807 < (x ++ E).size + D.size) = False := eq_false (by rw [g2, hDz]; have h1 := HP1.out; have h3 := HNL.out; omega)
          have g3' : (9223372036854775807 < x.size + E.size + D.size) = False := eq_false (by have h1 := HP1.out; have h3 := HNL.out; have h4 := HN.out; omega)
          obtain ⟨s, hs⟩ : ∃ s, s = x ++ E ++ D := ⟨_, rfl⟩
          have HSZ := Aside0.mk (show s.size = n + q + 8 from by rw [hs, ByteArray.size_append, g2, hDz])
          have HSB := Aside0.mk (show bI s = M ++ tail (M.length % 64) ((M.length : Int) % 18446744073709551616) from by
            rw [hs, bI_append, bI_append, HXM.out, tail_is, List.append_assoc]
            congr 1
            have e1 : M.length = n := HN.out.2.symm
            rw [e1, ← HP.out]
            have r1 : ∀ a ∈ ends (q - 1), 0 ≤ a ∧ a ≤ 255 := fun a ha => by
              unfold ends at ha
              rcases List.mem_cons.1 ha with h | h
              · omega
              · have := (List.mem_replicate.1 h).2; omega
            rw [hE, bI_str _ r1, hD, bI_str _ (fun a ha => by simp only [List.mem_cons, List.not_mem_nil, or_false] at ha; omega)]
            congr 1
            have e2 : IntKind.u64.wrap ((n : Int) % 18446744073709551616 * 8) = N8 := by
              rw [← hN8]
              simp only [IntKind.wrap, IntKind.bits, IntKind.signed]
              simp
              omega
            unfold padb
            rw [e2]
            simp)
          have HSE := Aside0.mk hs
          clear hE hEz hNr hD hDz g2 hs
          have hz : ((x.size : Int)) = (n : Int) := by have := HN.out; omega
          refine region_wq (by kernel_rfl) (by kernel_rfl) ?_
          repeat (refine WQ.step (fun KK hKK => ?_); go_simp; first | (refine hKK _ ?_; clear hKK KK) | (apply Exists.intro; refine ⟨fun _ => ?_, hKK _ ?_⟩; (exact cM _ _); clear hKK KK))
          refine WQ.nil ?_
          intro _ hw'
          obtain ⟨⟨dq, osq⟩, hw''⟩ := hw'
          subst hw''
          have hb2 := below_weaken HB.out HB.out.size (below_regrown wr dq osq)
          clear hcv cM g1 g3 g3' hn8 hN8 hz HE HI
          obtain ⟨v1, hv1⟩ : ∃ x, x = Go.Sort.grow (redrawn wr dq) osq := ⟨_, rfl⟩
          rw [← hv1] at hb2 ⊢
          rw [← HSE.out]
          clear hv1
          have HB1 := Aside0.mk hb2
          have HG1 := Aside0.mk (HG.out.below hb2)
          clear hb2 HB
          go_wp2_with (first
            | (refine wpList_load_cells rfl 62 (.global 0) rfl 0 rfl (u32s H8) (fun j v hv => by
                have hj : j < 8 := by have h1 := (List.getElem?_eq_some_iff.1 hv).1; rwa [len_u32s] at h1
                rw [HG1.out.h j hj, ← hv]; exact (get_map .u32 H8 j hj).symm) _ Tryd.underlying62 rfl (by kernel_rfl) ?_)
            | (refine wpList_alloc' rfl 62 rfl (wc (List.replicate 8 0)) (by kernel_rfl) ?_; intro w6 hw6; have HW6 := Aside0.mk hw6; clear hw6)
            | (refine wpList_store_row' rfl 62 (.tmp 7) (.tmp 45) rfl v1.heap.size rfl (wc H8) rfl (wc (List.replicate 8 0)) 62 (by rw [HW6.out]; exact blk_new _ _) (by rfl) (by kernel_rfl) (oneCell_wc _) ?_; intro w7 hw7;
               have HV7 := Aside0.mk (show w7.heap[v1.heap.size]? = some (.cells (wc H8) 62 (0, 0)) from by rw [hw7]; exact setRow_heap _ _ _ _ _ _ (by rw [HW6.out]; exact blk_new _ _));
               have hb7 : Below v1.heap.size v1 w7 := (by rw [hw7, HW6.out, setRow_new _ _ _ _ _ rfl]; exact below_alloc (Below.refl _ _) _);
               have HB7 := Aside0.mk (below_weaken HB1.out HB1.out.size hb7); have HG7 := Aside0.mk (HG1.out.below hb7); clear hb7 hw7))
          obtain ⟨bs, hbs⟩ : ∃ b, b = v1.heap.size := ⟨_, rfl⟩
          have HBS := Aside0.mk (show w.heap.size ≤ bs from by rw [hbs]; exact HB1.out.size)
          rw [← hbs] at HV7 ⊢
          clear hbs HB1 HG1
          obtain ⟨T, hT⟩ : ∃ T : Nat, T = (n + q + 8) / 64 := ⟨_, rfl⟩
          have HT := Aside0.mk (show s.size = 64 * T from by have h1 := HP1.out; have h2 := HSZ.out; omega)
          have HTN := Aside0.mk (show 64 * T ≤ 4611686018427388000 from by have h1 := HP1.out; have h2 := HNL.out; omega)
          have HTE := Aside0.mk hT
          clear hT
          go_loopg [8] T (fun kq q8 w' => ∃ m : Nat, q8 = .int .i64 ((64 * m : Nat) : Int) ∧ Aside0 (m + kq = T) ∧ Aside0 (w'.heap[bs]? = some (.cells (wc (stB (bI s) m)) 62 (0, 0))) ∧ Aside0 (K1 w7 w' bs))
          case atStart => exact ⟨0, by rfl, ⟨by omega⟩, HV7, ⟨K1.refl _ _⟩⟩
          case round =>
            obtain ⟨m, rfl, HI, HV, HK⟩ := hrel
            obtain ⟨p8, hp8⟩ : ∃ p : Int, p = ((64 * m : Nat) : Int) := ⟨_, rfl⟩
            rw [← hp8]
            cases gk with
            | zero =>
              have hlt : decide (p8 < (s.size : Int)) = false := decide_eq_false (by have h1 := HI.out; have h2 := HT.out; omega)
              clear hp8
              go_wp2_with (fail)
              have hmT : m = T := by have := HI.out; omega
              obtain ⟨St, hSt⟩ : ∃ St, St = stB (bI s) T := ⟨_, rfl⟩
              have HVT := Aside0.mk (show wr.heap[bs]? = some (.cells (wc St) 62 (0, 0)) from by rw [hSt, ← hmT]; exact HV.out)
              have HSL := Aside0.mk (show St.length = 8 from by rw [hSt]; exact stB_len _ _)
              have HSR := Aside0.mk (show ∀ j, j < 8 → 0 ≤ St.getD j 0 ∧ St.getD j 0 < 4294967296 from fun j hj => by rw [hSt]; exact stB_range _ _ j hj)
              have HFIN := Aside0.mk (show strOfNums ((List.range 32).map (obyte St)) = sha M from by
                unfold sha shaB
                rw [out_range _ 32 (Nat.le_refl _), Nat.sub_self, List.replicate_zero, List.append_nil]
                unfold fin
                rw [← HSB.out, hSt, HTE.out, ← HN.out.2, ← HP.out])
              have HBW := Aside0.mk (K1.old HB7.out HBS.out HK.out)
              obtain ⟨wz, hwz⟩ : ∃ x, x = wr := ⟨_, rfl⟩
              rw [← hwz] at HVT HBW ⊢
              clear hwz hSt hmT HV HK hlt
              go_loopg [9, 10] 8 (fun kq q9 q10 w' => ∃ i : Nat, q9 = .string (strOfNums ((List.range (4 * i)).map (obyte St))) ∧ q10 = .int .i64 (i : Int) ∧ Aside0 (i + kq = 8) ∧ Aside0 (Below wz.heap.size wz w'))
              case atStart => exact ⟨0, by rfl, by rfl, ⟨by omega⟩, ⟨Below.refl _ _⟩⟩
              case round =>
                obtain ⟨i2, rfl, rfl, HI2, HB2⟩ := hrel
                cases gk with
                | zero =>
                  have hlt : decide ((i2 : Int) < 8) = false := decide_eq_false (by have := HI2.out; omega)
                  have e8 : i2 = 8 := by have := HI2.out; omega
                  subst e8
                  go_wp2_with (fail)
                  go_ret
                  refine ⟨?_, below_weaken HBW.out HBW.out.size HB2.out⟩
                  rw [← HMM.out, ← HFIN.out]; rfl
                | succ k2 =>
                  have hil : i2 < 8 := by have := HI2.out; omega
                  have hlt : decide ((i2 : Int) < 8) = true := decide_eq_true (by omega)
                  have i1 : (i2 : Int) < 8 := by omega
                  have i0 : (0 : Int) ≤ i2 := Int.natCast_nonneg _
                  obtain ⟨y, hy⟩ : ∃ y, y = St.getD i2 0 := ⟨_, rfl⟩
                  have hx : wr.cell? ⟨bs, i2, none⟩ = some (.int .u32 y) := by rw [blk_cell (blk_below HVT.out HB2.out), wc_get _ _ (by rw [HSL.out]; exact hil), hy]
                  have hyr := HSR.out i2 hil
                  rw [← hy] at hyr
                  have hy64 : IntKind.u64.wrap y = y := MB.wrap_u64_in _ hyr.1 (by omega)
                  obtain ⟨D4, hD4⟩ : ∃ D4, D4 = strOfNums [y / 2 ^ 24 % 256, y / 2 ^ 16 % 256, y / 2 ^ 8 % 256, y % 256] := ⟨_, rfl⟩
                  have HD4 := Aside0.mk (show massifref01_Big.f 20 y 4 = some D4 from by rw [hD4]; exact big4 y hyr)
                  obtain ⟨o, ho⟩ : ∃ o, o = strOfNums ((List.range (4 * i2)).map (obyte St)) := ⟨_, rfl⟩
                  have hoz : o.size = 4 * i2 := by rw [ho, str_len, List.length_map, List.length_range]
                  have hdz : D4.size = 4 := by rw [hD4, str_len]; rfl
                  have gz : (9223372036854775807 < o.size + D4.size) = False := eq_false (by omega)
                  have HOD := Aside0.mk (show o ++ D4 = strOfNums ((List.range (4 * (i2 + 1))).map (obyte St)) from by rw [ho, hD4, hy, str_app, obytes, range4])
                  rw [← ho]
                  clear hy hyr hD4 ho hoz hdz hil
                  go_wp2_with (fail)
                  refine (massifref01_Big.calls 20 y 4 D4 _ HD4.out).mono ?_
                  rintro e w9 ⟨rfl, hb9⟩
                  have HB9 := Aside0.mk (below_weaken HB2.out HB2.out.size hb9)
                  clear hb9 hx
                  go_wp2_with (fail)
                  go_roundg k2
                  case measure => omega
                  case rel => exact ⟨i2 + 1, by rw [HOD.out], by go_num, ⟨by have := HI2.out; omega⟩, HB9⟩
            | succ k1 =>
              have hlt : decide (p8 < (s.size : Int)) = true := decide_eq_true (by have h1 := HI.out; have h2 := HT.out; omega)
              have u1 : wrap64 (p8 + 64) = p8 + 64 := MB.wrap64_in _ (by omega) (by have h1 := HI.out; have h2 := HTN.out; omega)
              have p1 : 0 ≤ p8 := by omega
              have p2 : p8 + 64 ≤ (s.size : Int) := by have h1 := HI.out; have h2 := HT.out; omega
              have p3 : p8 ≤ p8 + 64 := by omega
              have p4 : p8.toNat = 64 * m := by omega
              have p5 : (p8 + 64).toNat = 64 * m + 64 := by omega
              have p6 : 0 ≤ p8 + 64 := by omega
              have HP8 := Aside0.mk hp8
              clear hp8
              go_wp2_with (fail)
              have hbx := blk_extract s m
              have hbz : (s.extract (64 * m) (64 * m + 64)).size = 64 := by rw [ByteArray.size_extract]; omega
              obtain ⟨bk, hbk⟩ : ∃ bk, bk = s.extract (64 * m) (64 * m + 64) := ⟨_, rfl⟩
              rw [← hbk] at hbx hbz
              have HBX := Aside0.mk hbx
              have HBZ := Aside0.mk hbz
              have HSL := Aside0.mk (stB_len (bI s) m)
              obtain ⟨St, hSt⟩ : ∃ St, St = stB (bI s) m := ⟨_, rfl⟩
              rw [← hSt] at HV HSL
              have HST := Aside0.mk hSt
              have HBK := Aside0.mk hbk.symm
              have HQ8 := Aside0.mk (show p8 + 64 = ((64 * (m + 1) : Nat) : Int) from by rw [HP8.out]; omega)
              clear hbx hbz hbk hSt
              obtain ⟨v0, hv0⟩ : ∃ x, x = wr.drew := ⟨_, rfl⟩
              have HV0 := Aside0.mk (show v0.heap[bs]? = some (.cells (wc St) 62 (0, 0)) from by rw [hv0]; exact HV.out)
              have HK0 := Aside0.mk (show K1 w7 v0 bs from by rw [hv0]; exact HK.out.drew 1)
              have HG0 := Aside0.mk (show Gl v0 from by
                have k := HK0.out
                have h0 := HBS.out
                exact ⟨fun j hj => by
                  have h := HG7.out.h j hj
                  have hlt := World.block_lt_of_cell? _ _ h
                  have hw := World.block_lt_of_cell? _ _ (HG.out.h j hj)
                  rw [← h]
                  exact World.cell?_of_block (a := ⟨0, j, none⟩) (k.keep 0 hlt (by simp at hw; omega)), fun j hj => by
                  have h := HG7.out.k j hj
                  have hlt := World.block_lt_of_cell? _ _ h
                  have hw := World.block_lt_of_cell? _ _ (HG.out.k j hj)
                  rw [← h]
                  exact World.cell?_of_block (a := ⟨1, j, none⟩) (k.keep 1 hlt (by simp at hw; omega))⟩)
              refine region_ws ((1, false) :: (2, false) :: (3, false) :: (4, false) :: (5, false) :: (0, true) :: (6, true) :: (7, true) :: []) (fun _ => True) (by kernel_rfl) (by kernel_rfl) (fun _ d _ _ _ h => by cases d <;> exact h) ?_
              rw [← hv0]
              clear hv0 HV HK
              have u2 : IntKind.i64.wrap (p8 + 64) = p8 + 64 := (i64_w _).trans u1
              repeat (refine WS_w rfl trivial (by rfl) (fun KK hKK => ?_); go_simp; refine hKK _ ?_; clear hKK KK)
              refine WS_c rfl (by rfl) (fun KK hKK => ?_)
              refine wp_load_row 62 (.tmp 7) rfl bs rfl 62 (wc St) (0, 0) _ HV0.out Tryd.underlying62 rfl (by rw [wc_size, HSL.out]; kernel_rfl) ?_
              refine hKK.out _ _ trivial ?_
              clear hKK KK
              refine WS_c rfl (by rfl) (fun KK hKK => ?_)
              go_simp
              rw [HBK.out]
              refine (mixed_calls v0 St bk HSL.out HBZ.out HG0.out).mono ?_
              rintro e v1 ⟨rfl, hb1⟩
              have HV1 := Aside0.mk (blk_below HV0.out hb1)
              have HK1 := Aside0.mk (K1.trans HK0.out (K1.below hb1))
              clear hb1
              try go_wp2_with (fail)
              refine hKK.out _ _ trivial ?_
              clear hKK KK
              refine WS_c rfl (by rfl) (fun KK hKK => ?_)
              refine oper_store_row 62 (.tmp 7) (.tmp 58) rfl bs rfl (wc (mixS St (bI bk))) rfl (wc St) 62 HV1.out (by rw [wc_size, wc_size, mixS_len, HSL.out]) (by rw [wc_size, mixS_len]; kernel_rfl) (oneCell_wc _) ?_
              intro v2 hv2
              have HV2 := Aside0.mk (show v2.heap[bs]? = some (.cells (wc (stB (bI s) (m + 1))) 62 (0, 0)) from by
                rw [hv2, show stB (bI s) (m + 1) = mixS St (bI bk) from by rw [stB, HST.out, HBX.out]]; exact setRow_heap _ _ _ _ _ _ HV1.out)
              have HK2 := Aside0.mk (show K1 w7 v2 bs from by rw [hv2]; exact K1.row HK1.out _)
              clear hv2
              refine hKK.out _ _ trivial ?_
              clear hKK KK
              refine WS.nil ?_
              go_wp2_with (fail)
              go_roundg k1
              case measure => omega
              case rel => exact ⟨m + 1, by rw [← HQ8.out], ⟨by have := HI.out; omega⟩, HV2, HK2⟩
        | succ k1 =>
          have hr0 : r ≠ 0 := by have h1 := HI.out; have h2 := HP1.out; have h4 := HN.out; have h5 := HQ.out; clear u1 u2; omega
          have d1 : (r = 0) = False := eq_false hr0
          have d2 : (r == 0) = false := beq_eq_false_iff_ne.mpr hr0
          have d3 : (r != 0) = true := bne_iff_ne.mpr hr0
          have d4 : decide (r = 0) = false := decide_eq_false hr0
          have HQ1 := Aside0.mk (show q + 1 + k1 = P from by have h1 := HI.out; omega)
          have HQ0 := Aside0.mk (show 1 ≤ q ∧ q ≤ 64 from by have h1 := HI.out; have h2 := HP1.out; omega)
          clear hr0
          go_wp2_with (first | ((with_reducible refine gate_builtin (b := .append) (xs := #[.tmp 32, .tmp 33]) rfl ?_); at_builtin; refine Kd.R_append (Kd.int .u8) (w0 := w) w.heap.size rfl (.tmp 32) (.tmp 33) 30 5 (.int .u8 0) 1 rfl Tryd.underlying30 (by kernel_rfl) rfl (by decide) (by decide) (.slice (some ⟨A5, 0, none⟩) q c5) (ends (q - 1)) 0 [.int .u8 0] (fun j => w.heap.size ≤ j) (fun _ => False) rfl ?hx ?aP (fun _ hk => hk.elim) ?aF ?aO ?aB ?aS ?aL ?_; (case hx => first | rfl | (go_simp; done) | (simp [World.alloc]; done)); (case aP => exact rfl); (case aF => exact fun j hj => Nat.le_trans HB.out.size hj); (case aO => exact HE.out); (case aB => exact HB.out); (case aS => exact HB.out.size); (case aL => have h1 := HQ0.out; rw [ends_len]; omega); intro vm v5 ho hb5 hg5 hat; have HO5 := Aside0.mk ho; have HG5 := Aside0.mk hg5; have HB5 := Aside0.mk hb5; clear ho hb5 hg5 hat))
          have ho2 := HO5.out
          rw [ends_succ, show q - 1 + 1 = q from by have := HQ0.out; omega] at ho2
          obtain ⟨A6, c6, ev, _⟩ := Kd.R_form ho2 (by rw [ends_len]; omega)
          subst ev
          rw [ends_len] at ho2
          have HO6 := Aside0.mk ho2
          clear ho2 HO5
          rw [ends_len]
          go_roundg k1
          case measure => exact Nat.lt_succ_self _
          case rel => exact ⟨q + 1, A6, c6, by rfl, ⟨by have := HQ0.out; have := HQ1.out; omega⟩, HO6, HB5⟩
    | succ k1 =>
      have hil : i < l.length := by have := HI.out; omega
      have hlt : decide (i < l.length) = true := decide_eq_true hil
      have hib : (i : Int) ≤ 9223372036854775806 := by have h1 := HM.out; unfold maxLen at h1; omega
      obtain ⟨ad, e1, hx⟩ := Kd.at_string (Kd.C_below HR.out HB.out) (i : Int) (by omega) (by omega)
      cases e1
      rw [Int.toNat_natCast] at hx
      have hrd : rdOf ByteArray.empty l (i : Int) = l[i] := by unfold rdOf; simp [hil]
      rw [hrd] at hx
      obtain ⟨s, hs⟩ : ∃ s : ByteArray, s = l[i] := ⟨_, rfl⟩
      rw [← hs] at hx
      have e1 : (l.take (i + 1)).flatMap bI = (l.take i).flatMap bI ++ bI s := by
        rw [List.take_succ_eq_append_getElem hil, List.flatMap_append, hs]; simp
      have hsum : x.size + s.size ≤ 4611686018427387904 := by
        have h1 := HSP.out (i + 1)
        have h2 := HL.out
        rw [e1, List.length_append, ← HX.out, bI_len, bI_len] at h1
        omega
      have hbig : (9223372036854775807 < x.size + s.size) = False := eq_false (by omega)
      have HXS := Aside0.mk (show bI (x ++ s) = (l.take (i + 1)).flatMap bI from by rw [e1, bI_append, HX.out])
      clear hrd hs hsum e1
      go_wp2_with (fail)
      go_roundg k1
      case measure => exact Nat.lt_succ_self _
      case rel => exact ⟨i + 1, x ++ s, by rfl, by go_num, ⟨by have := HI.out; omega⟩, HXS, HB⟩
end Go.Proofs.YtcghicmdphfodaaDoor.Sha
namespace Go.Proofs.YtcghicmdphfodaaDoor.PPlainAsks
open Go.RowKit Go.Proofs.YtcghicmdphfodaaDoorW.PrintWords Go.Proofs.YtcghicmdphfodaaDoorW.PrintLast Go.Proofs.YtcghicmdphfodaaDoorW.PrintMore
/-- What massifref01.Of comes to. -/
def massifref01_Of.f (l0 : List ByteArray) : Option ByteArray :=
  if (l0.flatMap Sha.bI).length ≤ 4611686018427387904 then some (Sha.sha (l0.flatMap Sha.bI)) else none
theorem massifref01_Of.calls (A0 : Option Addr) (c0 : Nat) (l0 : List ByteArray) (r : ByteArray) (w : World) (hr0 : Kd.C Kd.string w A0 l0.length l0) (hc0 : l0.length ≤ c0) (h : massifref01_Of.f l0 = some r) (hg : Sha.Gl w) :
    Calls Tryd.prog 12 #[.slice A0 l0.length c0] w fun e w' => e = .returned (.string r) ∧ Below w.heap.size w w' := by
  unfold massifref01_Of.f at h
  by_cases c : (l0.flatMap Sha.bI).length ≤ 4611686018427387904
  · rw [if_pos c] at h
    rw [← Option.some.inj h]
    exact Sha.rof_calls A0 c0 l0 w hr0 hc0 c hg
  · rw [if_neg c] at h; cases h
end Go.Proofs.YtcghicmdphfodaaDoor.PPlainAsks
