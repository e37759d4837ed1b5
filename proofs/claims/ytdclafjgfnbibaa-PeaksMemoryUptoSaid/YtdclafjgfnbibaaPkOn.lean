/- The walk of massiflaw09.PeaksOn: it answers true, and what was there stays. -/
import Derived.Test.YtdclafjgfnbibaaPk7
import Derived.Outline
set_option linter.unusedVariables false
set_option linter.unusedSimpArgs false
namespace Go.Proofs.Ytdclafjgfnbibaa.Pk
open Go.RowKit Go.Proofs.Ytdclafjgfnbibaa.MB Go.Proofs.YtdclafjgfnbibaaW.PrintWords Go.Proofs.YtdclafjgfnbibaaW.PrintLast Go.Proofs.YtdclafjgfnbibaaW.PrintMore Go.Proofs.Ytdclafjgfnbibaa.PPeaksRefused Go.Proofs.Ytdclafjgfnbibaa.Ob
theorem add_two (a : Addr) (i j : Nat) : (a.add i).add j = a.add (i + j) := by
  unfold Addr.add
  by_cases h1 : i = 0 <;> by_cases h2 : j = 0 <;> simp [h1, h2, Nat.add_assoc]
/-- A struct that is read at a place. -/
theorem wpList_load_at {P : Program} {ops : Array Oper} {rest : List Oper} {o : Oper} {a : Act} {w : World} {Q : Exit → Act → World → Prop} (hgd : o.guard = none) (ty : TypeId) (x : Operand) (ho : o.op = .load ty x)
    (p : Addr) (hx : a.eval x = .pointer (some p)) (cs : Array Value) (d : TypeDesc) (hc : ∀ j v, cs[j]? = some v → w.cell? (p.add j) = some v)
    (hu : P.underlying ty = some d) (hd : (match d with | .struct _ | .array _ _ => true | _ => false) = true) (hi : (P.info? ty).map (·.size) = some cs.size)
    (h : wpList P ops Q rest (a.put o.dst (.agg cs)) w) : wpList P ops Q (o :: rest) a w := by
  have hrun : (loadVar ty p).run P w = .ok (.agg cs) w := by
    have hl := run_loadCells_list (P := P) w p cs.toList (fun j v hj => hc j v (by simpa using hj))
    simp only [Array.length_toList, Array.toArray_toList] at hl
    cases hq : P.info? ty with
    | none => simp [hq] at hi
    | some i =>
      have hs : i.size = cs.size := by simpa [hq] using hi
      have hagg : (isAgg ty).run P w = .ok true w := by
        unfold isAgg
        rw [Sem.run_bind, run_underlying hu w]
        cases d <;> simp_all
      simp [loadVar, Sem.run_bind, hagg, sizeOf, typeInfo, hq, hs, hl]
  refine wpList_plain hgd fun K hK => ?_
  unfold Oper.wp execOp
  simp only [ho, hx, Instr.loadAt, Instr.sureAddr, Sem.run_bind, Sem.run_pure, Result.andThen_ok, hrun]
  exact hK _ _ h
/-- Ops that are read. -/
def Ops (w : World) (A : Option Addr) (l : List Op) : Prop :=
  l.length ≤ 9223372036854775807 ∧ (0 < l.length → ∃ ad : Addr, A = some ad ∧ ∀ (i : Nat) (o : Op), l[i]? = some o → ∀ (j : Nat) (u : Value), o.cells[j]? = some u → w.cell? (ad.add (i * 5 + j)) = some u)
theorem Ops.below {w w' : World} {A : Option Addr} {l : List Op} (h : Ops w A l) (hb : Below w.heap.size w w') : Ops w' A l :=
  ⟨h.1, fun hp => by
    obtain ⟨ad, e, hc⟩ := h.2 hp
    exact ⟨ad, e, fun i o hi j u hu => (hb.cell (World.block_lt_of_cell? _ _ (hc i o hi j u hu))).trans (hc i o hi j u hu)⟩⟩
theorem strength_is (k : Int) : ∃ K : Int, massiflaw09_strength.f k = some K ∧ 1 ≤ K ∧ K ≤ 32 := by
  unfold massiflaw09_strength.f
  have h0 : 0 ≤ IntKind.u64.wrap k := by rw [MB.wrap_u64_is]; omega
  have h1 : Int.tmod (IntKind.u64.wrap k) 32 = IntKind.u64.wrap k % 32 := Int.tmod_eq_emod_of_nonneg h0
  rw [h1, MB.wrap64_in (IntKind.u64.wrap k % 32) (by omega) (by omega), MB.wrap64_in _ (by omega) (by omega)]
  exact ⟨_, rfl, by omega, by omega⟩
theorem rootIs {K : Int} {n : Nat} {L : List ByteArray} (hI : Inv K n L) : hash_Root.f 100 K n L = some (MH.rootD K n L) := by
  have h1 := hI.len
  have h2 := MB.ones_le n
  exact hash_Root.is 100 K n L 32 (by omega) (by omega) (fun s hs => by have := hI.sz s hs; have := hI.k2; omega) (by omega) (by omega)
theorem M_le (o : Op) {K : Int} {n : Nat} {L : List ByteArray} (hI : Inv K n L) : (o.M K n L).length ≤ 70 := by
  unfold Op.M
  split
  · simp
  · unfold opM
    split
    · rw [mades_len]
      have := Inv.t K n L hI 0 (by omega)
      rw [show n / 2 ^ (0 : Int).toNat = n / 2 ^ 0 from rfl]; omega
    · simp
set_option maxHeartbeats 4000000 in
set_option maxRecDepth 100000 in
theorem on_calls (w : World) (k : Int) (A1 A2 : Option Addr) (c1 c2 : Nat) (l1 l2 : List Op) (h1 : Ops w A1 l1) (h2 : Ops w A2 l2) :
    Calls Try.prog 4 #[.int .i64 k, .slice A1 l1.length c1, .slice A2 l2.length c2] w fun e w' => e = .returned (.bool true) ∧ Below w.heap.size w w' := by
  obtain ⟨K, hK, hK1, hK2⟩ := strength_is k
  have HO1 := Aside0.mk h1
  have HO2 := Aside0.mk h2
  have HKS := Aside0.mk hK
  have HKI := Aside0.mk (And.intro hK1 hK2)
  have HLL := Aside0.mk (And.intro h1.1 h2.1)
  clear h1 h2 hK hK1 hK2
  go_enter Try.func4, Try.ntmps4
  go_wp2_with (fail)
  refine (alive_calls w).mono ?_
  rintro e w1 ⟨rfl, hb1⟩
  have HB1 := Aside0.mk hb1
  clear hb1
  go_wp2_with (fail)
  refine (massiflaw09_strength.calls k K w1 HKS.out).mono ?_
  rintro e w2 ⟨rfl, hd⟩
  have HB2 := Aside0.mk (below_weaken HB1.out HB1.out.size hd.below)
  clear hd
  go_wp2_with (fail)
  refine (new_ok w2 K HKI.out.1 HKI.out.2).mono ?_
  rintro e w3 ⟨ha, rfl, hle, hr, hb3⟩
  have HR3 := Aside0.mk (hr.mono (fun j hj => Nat.le_trans HB2.out.size hj))
  have HB3 := Aside0.mk (below_weaken HB2.out HB2.out.size hb3)
  clear hr hle hb3
  go_wp2_with (fail)
  go_loopg [9] l1.length (fun kq v9 w' => ∃ (i n : Nat) (L : List ByteArray) (ok : Nat → Prop), v9 = .int .i64 (i : Int) ∧ Aside0 (i + kq = l1.length) ∧ Aside0 (Rg w' ha ok K n L) ∧ Aside0 (Inv K n L) ∧ Aside0 (∀ j, ok j → w.heap.size ≤ j) ∧ Aside0 (Below w.heap.size w w'))
  case atStart => exact ⟨0, 0, [], fun j => w.heap.size ≤ j, by rfl, ⟨by omega⟩, HR3, ⟨inv0 K HKI.out.1 HKI.out.2⟩, ⟨fun _ h => h⟩, HB3⟩
  case round =>
    obtain ⟨i, n, L, ok, rfl, HI, HR, HV, HOK, HB⟩ := hrel
    by_cases hgo : i < l1.length ∧ i < 100
    · obtain ⟨hil, h100⟩ := hgo
      obtain ⟨k1, rfl⟩ : ∃ k1, gk = k1 + 1 := ⟨gk - 1, by have := HI.out; omega⟩
      have hlt : decide ((i : Int) < (l1.length : Int)) = true := decide_eq_true (by omega)
      have hlt' : decide (i < l1.length) = true := decide_eq_true hil
      have hlu : decide ((i : Int) < 100) = true := decide_eq_true (by omega)
      have hlu' : decide (i < 100) = true := decide_eq_true h100
      obtain ⟨ad, e1, hx⟩ := (HO1.out.below HB.out).2 (by omega)
      cases e1
      obtain ⟨o, ho⟩ : ∃ o, l1[i]? = some o := ⟨l1[i], List.getElem?_eq_getElem hil⟩
      have HX := Aside0.mk (fun (j : Nat) (v : Value) (hj : o.cells[j]? = some v) => show wr.cell? ((ad.add (i * 5)).add j) = some v from by rw [add_two]; exact hx i o ho j v hj)
      clear hx ho
      go_wp2_with (first | ((with_reducible refine gate_dst (N := 42) rfl ?_); refine wpList_load_at rfl 46 (.tmp 41) rfl (ad.add (i * 5)) rfl o.cells _ HX.out Try.underlying46 rfl (by kernel_rfl) ?_))
      refine (does_calls wr ha ok K n L o HR.out HV.out).mono ?_
      intro e w4 hD
      obtain ⟨A4, N4, c4, rfl, hbs, hl, hr, hk⟩ := hD.told
      have HR4 := Aside0.mk hr
      have HB4 := Aside0.mk (Kp.old HB.out HB.out.size hk HOK.out)
      have HOK4 := Aside0.mk (show ∀ j, nx wr ok (.slice A4 N4 c4) j → w.heap.size ≤ j from fun j h => by have := HB.out.size; rcases h with h | h; exact HOK.out j h.1; omega)
      clear hl hr hk hD hbs
      go_wp2_with (fail)
      go_roundg k1
      case measure => exact Nat.lt_succ_self _
      case rel => exact ⟨i + 1, o.N K n, o.L K n L, _, by go_num, ⟨by have := HI.out; omega⟩, HR4, ⟨HV.out.does o⟩, HOK4, HB4⟩
    · have hends : (decide ((i : Int) < (l1.length : Int)) = false ∧ decide (i < l1.length) = false) ∨ ((decide ((i : Int) < (l1.length : Int)) = true ∧ decide (i < l1.length) = true) ∧ decide ((i : Int) < 100) = false ∧ decide (i < 100) = false) := by
        by_cases h : i < l1.length
        · exact .inr ⟨⟨decide_eq_true (by omega), decide_eq_true h⟩, decide_eq_false (by omega), decide_eq_false (by omega)⟩
        · exact .inl ⟨decide_eq_false (by omega), decide_eq_false h⟩
      have hi64 : (i : Int) ≤ 9223372036854775807 := by have := HI.out; have := HLL.out.1; omega
      clear hgo
      rcases hends with ⟨hlt, hlt'⟩ | ⟨⟨hlt, hlt'⟩, hlu, hlu'⟩
      all_goals
        go_wp2_with (fail)
        refine (size_calls wr ha ok K n L HR.out).mono ?_
        rintro e w4 ⟨rfl, hb4⟩
        have HR4 := Aside0.mk (HR.out.below hb4)
        have HB4 := Aside0.mk (below_weaken HB.out HB.out.size hb4)
        clear hb4
        go_wp2_with (fail)
        refine (peaks_calls w4 ha ok K n L HR4.out (by have := HV.out.len; have := MB.ones_le n; omega)).mono ?_
        rintro e w5 ⟨v5, rfl, hr5, hb5⟩
        obtain ⟨A5, c5, e5, hcc5, hC5⟩ := Kd.R_reads hr5
        subst e5
        have HC5 := Aside0.mk hC5
        have HR5 := Aside0.mk (HR4.out.below hb5)
        have HB5 := Aside0.mk (below_weaken HB4.out HB4.out.size hb5)
        clear hr5 hcc5 hC5 hb5
        go_wp2_with (fail)
        refine (from_ok w5 K n A5 c5 L HV.out HC5.out).mono ?_
        rintro e w6 ⟨hb, rfl, hle, hr6, hb6⟩
        have HRB := Aside0.mk hr6
        have HRA := Aside0.mk (HR5.out.bound.below hb6)
        have HB6 := Aside0.mk (below_weaken HB5.out HB5.out.size hb6)
        clear hr6 hle hb6
        go_wp2_with (fail)
        go_loopg [12] l2.length (fun kq v12 w' => ∃ (i n : Nat) (L : List ByteArray) (oka okb : Nat → Prop), v12 = .int .i64 (i : Int) ∧ Aside0 (i + kq = l2.length) ∧ Aside0 (Rg w' ha oka K n L) ∧ Aside0 (Rg w' hb okb K n L) ∧ Aside0 (Inv K n L) ∧ Aside0 ((∀ j, oka j → w.heap.size ≤ j) ∧ (∀ j, okb j → w.heap.size ≤ j) ∧ ∀ j, oka j → ¬ okb j) ∧ Aside0 (Below w.heap.size w w'))
        case atStart => exact ⟨0, n, L, _, _, by rfl, ⟨by omega⟩, HRA, HRB, HV, ⟨fun j h => HOK.out j h.1, fun j h => Nat.le_trans HB5.out.size h, fun j h h2 => by have := h.2; omega⟩, HB6⟩
        case round =>
          clear HR HR4 HR5 HRA HRB HV HB HB4 HB5 HB6 HOK HC5 HI
          obtain ⟨x, n, L, oka, okb, rfl, HI, HRA, HRB, HV, HOK, HB⟩ := hrel
          by_cases hgo : x < l2.length ∧ x < 100
          · obtain ⟨hxl, h100⟩ := hgo
            obtain ⟨k1, rfl⟩ : ∃ k1, gk = k1 + 1 := ⟨gk - 1, by have := HI.out; omega⟩
            have hmt : decide ((x : Int) < (l2.length : Int)) = true := decide_eq_true (by omega)
            have hmt' : decide (x < l2.length) = true := decide_eq_true hxl
            have hmu : decide ((x : Int) < 100) = true := decide_eq_true (by omega)
            have hmu' : decide (x < 100) = true := decide_eq_true h100
            obtain ⟨ad, e1, hx⟩ := HO2.out.2 (by omega)
            cases e1
            obtain ⟨o, ho⟩ : ∃ o, l2[x]? = some o := ⟨l2[x], List.getElem?_eq_getElem hxl⟩
            have HX := Aside0.mk (fun (W : World) (hW : Below w.heap.size w W) (j : Nat) (v : Value) (hj : o.cells[j]? = some v) => show W.cell? ((ad.add (x * 5)).add j) = some v from by
              rw [add_two]; have h := hx x o ho j v hj; exact (hW.cell (World.block_lt_of_cell? _ _ h)).trans h)
            clear hx ho
            go_wp2_with (first | ((with_reducible refine gate_dst (N := 75) rfl ?_); refine wpList_load_at rfl 46 (.tmp 74) rfl (ad.add (x * 5)) rfl o.cells _ (HX.out _ HB.out) Try.underlying46 rfl (by kernel_rfl) ?_))
            refine (does_calls _ ha oka K n L o HRA.out HV.out).mono ?_
            intro e w7 hD
            obtain ⟨A7, N7, c7, rfl, hbs, hl, hr, hk⟩ := hD.told
            have HRA7 := Aside0.mk hr
            have HRB7 := Aside0.mk (HRB.out.kept hk (fun j h h2 => HOK.out.2.2 j h2 h))
            have HL7 := Aside0.mk (show Ls w7 (fun j => okb j ∧ j < wr.heap.size) (.slice A7 N7 c7) (o.M K n L) from ⟨hl.1, fun j hj h => by have := hbs j hj; omega⟩)
            have HB7 := Aside0.mk (Kp.old HB.out HB.out.size hk HOK.out.1)
            have HZ7 := Aside0.mk hk.size
            clear hl hr hk hD hbs
            go_wp2_with (first | ((with_reducible refine gate_dst (N := 85) rfl ?_); refine wpList_load_at rfl 46 (.tmp 84) rfl (ad.add (x * 5)) rfl o.cells _ (HX.out _ HB7.out) Try.underlying46 rfl (by kernel_rfl) ?_))
            refine (does_calls _ hb _ K n L o HRB7.out HV.out).mono ?_
            intro e w8 hD
            obtain ⟨A8, N8, c8, rfl, hbs, hl, hr, hk⟩ := hD.told
            have HRB8 := Aside0.mk hr
            have HRA8 := Aside0.mk (HRA7.out.kept hk (fun j h h2 => by rcases h with h | h; exact HOK.out.2.2 j h.1 h2.1; have := h2.2; omega))
            have HL8 := Aside0.mk hl
            have HL78 := Aside0.mk (HL7.out.next (u := .slice A8 N8 c8) hk)
            have HB8 := Aside0.mk (Kp.old HB7.out HB7.out.size hk (fun j h => HOK.out.2.1 j h.1))
            have HOK8 := Aside0.mk (show (∀ j, (nx wr oka (.slice A7 N7 c7) j ∧ j < w7.heap.size) → w.heap.size ≤ j) ∧ (∀ j, nx w7 (fun j => okb j ∧ j < wr.heap.size) (.slice A8 N8 c8) j → w.heap.size ≤ j) ∧ ∀ j, (nx wr oka (.slice A7 N7 c7) j ∧ j < w7.heap.size) → ¬ nx w7 (fun j => okb j ∧ j < wr.heap.size) (.slice A8 N8 c8) j from by
              have q1 := HB.out.size
              have q2 := HB7.out.size
              have q3 := HOK.out
              refine ⟨fun j h => ?_, fun j h => ?_, fun j h h2 => ?_⟩
              · rcases h.1 with h | h
                · exact q3.1 j h.1
                · omega
              · rcases h with h | h
                · exact q3.2.1 j h.1.1
                · omega
              · have h3 := h.2
                rcases h2 with h2 | h2
                · rcases h.1 with h | h
                  · exact q3.2.2 j h.1 h2.1.1
                  · have := h2.1.2; omega
                · omega)
            clear hl hr hk hD hbs
            obtain ⟨M, hM⟩ : ∃ M, M = o.M K n L := ⟨_, rfl⟩
            have HML := Aside0.mk (show M.length ≤ 70 from by rw [hM]; exact M_le o HV.out)
            obtain ⟨E, hE⟩ : ∃ E, E = o.E K n := ⟨_, rfl⟩
            rw [← hM] at HL8 HL78
            rw [← hE]
            clear hM hE
            obtain ⟨e7, hc7, hC7⟩ := HL78.out.C
            obtain ⟨e8, hc8, hC8⟩ := HL8.out.C
            subst e7
            subst e8
            have HC7 := Aside0.mk (And.intro hc7 hC7)
            have HC8 := Aside0.mk (And.intro hc8 hC8)
            clear hc7 hC7 hc8 hC8
            go_wp2_with (fail)
            refine (massiflaw09_same.calls 1000 A7 c7 M A8 c8 M true _ HC7.out.2 HC7.out.1 HC8.out.2 HC8.out.1 (massiflaw09_same.is 1000 M (by have := HML.out; omega) (by have := HML.out; omega))).mono ?_
            rintro e w9 ⟨rfl, hd9⟩
            have HRA9 := Aside0.mk (HRA8.out.below hd9.below)
            have HRB9 := Aside0.mk (HRB8.out.below hd9.below)
            have HB9 := Aside0.mk (below_weaken HB8.out HB8.out.size hd9.below)
            clear hd9
            have HV9 := Aside0.mk (HV.out.does o)
            obtain ⟨n9, hn9⟩ : ∃ n9, n9 = o.N K n := ⟨_, rfl⟩
            obtain ⟨L9, hL9⟩ : ∃ L9, L9 = o.L K n L := ⟨_, rfl⟩
            rw [← hn9, ← hL9] at HV9 HRA9 HRB9
            have hrt := rootIs HV9.out
            obtain ⟨D, hD⟩ : ∃ D, D = MH.rootD K n9 L9 := ⟨_, rfl⟩
            rw [← hD] at hrt
            have HRT := Aside0.mk hrt
            have HLL9 := Aside0.mk (show L9.length ≤ 64 from by have := HV9.out.len; have := MB.ones_le n9; omega)
            clear hrt hD hn9 hL9
            go_wp2_with (fail)
            refine (root_calls 100 w9 ha _ K n9 L9 D HRA9.out HRT.out).mono ?_
            rintro e w10 ⟨rfl, hb10⟩
            have HRA10 := Aside0.mk (HRA9.out.below hb10)
            have HRB10 := Aside0.mk (HRB9.out.below hb10)
            have HB10 := Aside0.mk (below_weaken HB9.out HB9.out.size hb10)
            clear hb10
            go_wp2_with (fail)
            refine (root_calls 100 w10 hb _ K n9 L9 D HRB10.out HRT.out).mono ?_
            rintro e w11 ⟨rfl, hb11⟩
            have HRA11 := Aside0.mk (HRA10.out.below hb11)
            have HRB11 := Aside0.mk (HRB10.out.below hb11)
            have HB11 := Aside0.mk (below_weaken HB10.out HB10.out.size hb11)
            clear hb11
            go_wp2_with (fail)
            refine (peaks_calls w11 ha _ K n9 L9 HRA11.out (by have := HLL9.out; omega)).mono ?_
            rintro e w12 ⟨v12, rfl, hr12, hb12⟩
            obtain ⟨A12, c12, e12, hcc12, hC12⟩ := Kd.R_reads hr12
            subst e12
            have HC12 := Aside0.mk (And.intro hcc12 hC12)
            have HRA12 := Aside0.mk (HRA11.out.below hb12)
            have HRB12 := Aside0.mk (HRB11.out.below hb12)
            have HB12 := Aside0.mk (below_weaken HB11.out HB11.out.size hb12)
            clear hr12 hcc12 hC12 hb12
            go_wp2_with (fail)
            refine (peaks_calls w12 hb _ K n9 L9 HRB12.out (by have := HLL9.out; omega)).mono ?_
            rintro e w13 ⟨v13, rfl, hr13, hb13⟩
            obtain ⟨A13, c13, e13, hcc13, hC13⟩ := Kd.R_reads hr13
            subst e13
            have HC13 := Aside0.mk (And.intro hcc13 hC13)
            have HC123 := Aside0.mk (Kd.C_below HC12.out.2 hb13)
            have HRA13 := Aside0.mk (HRA12.out.below hb13)
            have HRB13 := Aside0.mk (HRB12.out.below hb13)
            have HB13 := Aside0.mk (below_weaken HB12.out HB12.out.size hb13)
            clear hr13 hcc13 hC13 hb13
            go_wp2_with (fail)
            refine (massiflaw09_same.calls 1000 A12 c12 L9 A13 c13 L9 true _ HC123.out HC12.out.1 HC13.out.2 HC13.out.1 (massiflaw09_same.is 1000 L9 (by have := HLL9.out; omega) (by have := HLL9.out; omega))).mono ?_
            rintro e w14 ⟨rfl, hd14⟩
            have HRA14 := Aside0.mk (HRA13.out.below hd14.below)
            have HRB14 := Aside0.mk (HRB13.out.below hd14.below)
            have HB14 := Aside0.mk (below_weaken HB13.out HB13.out.size hd14.below)
            clear hd14
            go_wp2_with (fail)
            go_roundg k1
            case measure => exact Nat.lt_succ_self _
            case rel => exact ⟨x + 1, n9, L9, _, _, by go_num, ⟨by have := HI.out; omega⟩, HRA14, HRB14, HV9, HOK8, HB14⟩
          · have hends2 : (decide ((x : Int) < (l2.length : Int)) = false ∧ decide (x < l2.length) = false) ∨ ((decide ((x : Int) < (l2.length : Int)) = true ∧ decide (x < l2.length) = true) ∧ decide ((x : Int) < 100) = false ∧ decide (x < 100) = false) := by
              by_cases h : x < l2.length
              · exact .inr ⟨⟨decide_eq_true (by omega), decide_eq_true h⟩, decide_eq_false (by omega), decide_eq_false (by omega)⟩
              · exact .inl ⟨decide_eq_false (by omega), decide_eq_false h⟩
            have hi64 : (x : Int) ≤ 9223372036854775807 := by have := HI.out; have := HLL.out.2; omega
            clear hgo
            rcases hends2 with ⟨hmt, hmt'⟩ | ⟨⟨hmt, hmt'⟩, hmu, hmu'⟩
            all_goals
              go_wp2_with (fail)
              go_ret
              exact ⟨rfl, HB.out⟩
end Go.Proofs.Ytdclafjgfnbibaa.Pk
