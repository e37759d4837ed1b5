/- massiflaw03.PlaceMemory: the walk. No condition beyond those that each theorem names. -/
import Derived.Test.YtlbehenaoiddkaaPmC
import Derived.Test.YtlbehenaoiddkaaWKept
import Derived.Test.YtlbehenaoiddkaaOb
import Derived.Carry
import Derived.Deep.RegionHeld3
import Derived.StillTailTactics
import Derived.WalkMore
import Derived.Outline
set_option linter.unusedVariables false
set_option linter.unusedSimpArgs false
namespace Go.Proofs.Ytlbehenaoiddkaa.Pm
open Go.RowKit Go.Proofs.Ytlbehenaoiddkaa.MB Go.Proofs.YtlbehenaoiddkaaW.PrintWords Go.Proofs.YtlbehenaoiddkaaW.PrintLast Go.Proofs.YtlbehenaoiddkaaW.PrintMore Go.Proofs.Ytlbehenaoiddkaa.PPlaceNumbers Go.Proofs.Ytlbehenaoiddkaa.Ob Go.Proofs.Ytlbehenaoiddkaa.Ap
theorem R_col {b : Nat} {e : TypeId} {w : World} {ok : Nat → Prop} {col : Nat → Nat} {t : Nat} {v : Value} {xs : List Int} (h : Kd.R (Kd.int .u64) e w b ok v xs) (hc : ∀ j, b ≤ j → j < w.heap.size → col j = t) : Kd.R (Kd.int .u64) e w 0 (fun j => col j = t) v xs :=
  Kd.R_lower (Kd.R_mono (Kd.R_bound h) (fun j hj => hc j hj.2.1 hj.2.2.1)) (Nat.zero_le _)
theorem all_eq {X : List Int} {n : Nat} {y : Int} (hl : X.length = n) (h : ∀ p, p < n → X[p]? = some y) : X = List.replicate n y := by
  refine List.eq_replicate_iff.2 ⟨hl, fun z hz => ?_⟩
  obtain ⟨p, hp, rfl⟩ := List.getElem_of_mem hz
  have := h p (by omega)
  rw [List.getElem?_eq_getElem hp] at this; exact Option.some.inj this
theorem step_other {w w1 : World} {k : IntKind} {e : TypeId} {col : Nat → Nat} {t t' g n gT nT m mT : Nat} {v v' : Value} {y y' : Int} (h : Fam w k e col t' g n v' y' m) (hT : Fam w k e col t gT nT v y mT) (hne : t ≠ t') (hg : w.grownBy w1 v.ownBlock) : Fam w1 k e (coled w col t) t' g n v' y' m :=
  (h.recol (coled_old w col t)).other hg (fun j hj => by rw [coled_old _ _ _ _ (Kd.R_lt hT.row j hj)]; have h2 : col j = t := hT.row.1 j hj; omega)
theorem step_row {w w1 : World} {k : IntKind} {e : TypeId} {col : Nat → Nat} {t t' gT nT mT : Nat} {v v' : Value} {y : Int} {xs : List Int} (h : Kd.R (Kd.int k) e w 0 (fun j => col j = t') v' xs) (hT : Fam w k e col t gT nT v y mT) (hne : t ≠ t') (hg : w.grownBy w1 v.ownBlock) : Kd.R (Kd.int k) e w1 0 (fun j => coled w col t j = t') v' xs :=
  R_other (R_recol h (coled_old w col t)) hg (fun j hj => by rw [coled_old _ _ _ _ (Kd.R_lt hT.row j hj)]; have h2 : col j = t := hT.row.1 j hj; omega)
theorem step_old {w w0 : World} {col : Nat → Nat} {t : Nat} (h : ∀ j, col j ≠ 0 → w0.heap.size ≤ j) (hz : w0.heap.size ≤ w.heap.size) : ∀ j, coled w col t j ≠ 0 → w0.heap.size ≤ j := fun j hj => by
  unfold coled at hj
  by_cases c : w.heap.size ≤ j
  · omega
  · rw [if_neg c] at hj; exact h j hj
theorem step_below {w0 w w1 : World} {k : IntKind} {e : TypeId} {col : Nat → Nat} {t g n m : Nat} {v : Value} {y : Int} (hT : Fam w k e col t g n v y m) (ht : t ≠ 0) (h : ∀ j, col j ≠ 0 → w0.heap.size ≤ j) (hB : Below w0.heap.size w0 w) (hg : w.grownBy w1 v.ownBlock) : Below w0.heap.size w0 w1 :=
  Kp.old hB hB.size (Kp.grown (Kp.refl w (fun j => w0.heap.size ≤ j)) hg (fun j hj => .inl (h j (by have h2 : col j = t := hT.row.1 j hj; omega)))) (fun _ h => h)
theorem Fam.start {w : World} {k : IntKind} {e : TypeId} {col : Nat → Nat} {t n c : Nat} {A : Option Addr} {y : Int} (h : Kd.R (Kd.int k) e w 0 (fun j => col j = t) (.slice A n c) (List.replicate n y)) : ∃ g, Fam w k e col t g n (.slice A n c) y n ∧ (0 < n → A = some ⟨g, 0, none⟩) := by
  by_cases hn : 0 < n
  · obtain ⟨g, cp, eg, _, gl, _⟩ := Kd.R_form h (by rw [List.length_replicate]; exact hn)
    rw [List.length_replicate] at eg
    cases eg
    refine ⟨g, ⟨h, fun i hi => ?_, fun _ => ⟨h.1 g rfl, gl⟩, Nat.le_refl _⟩, fun _ => rfl⟩
    have h3 := (Kd.R_celln (0 : Int) h (i : Int) (by omega) (by omega)).1
    rw [Int.toNat_natCast] at h3
    rw [h3]
    have e1 : rdOf (0 : Int) (List.replicate n y) (i : Int) = y := by
      unfold rdOf
      rw [Int.toNat_natCast, List.getD_eq_getElem?_getD, List.getElem?_replicate, if_pos hi]; rfl
    rw [e1]
  · exact ⟨0, ⟨h, fun i hi => by omega, fun h0 => absurd h0 hn, Nat.le_refl _⟩, fun h0 => absurd h0 hn⟩
set_option maxHeartbeats 8000000 in
set_option maxRecDepth 100000 in
theorem mem_calls (w : World) (a0 a1 : Int) (f0 : (Lit.int .u64 a0).wf = true) (f1 : (Lit.int .u64 a1).wf = true) : Calls Try.prog 10 #[.int .u64 a0, .int .u64 a1] w fun e w' => e = .returned (.bool true) ∧ Below w.heap.size w w' := by
  obtain ⟨m0, rfl, hm0⟩ := MB.wf_u64 f0
  obtain ⟨m, rfl, hm⟩ := MB.wf_u64 f1
  obtain ⟨n, hn⟩ : ∃ n : Nat, (n : Int) = Int.tmod (m0 : Int) 1099511627777 := ⟨m0 % 1099511627777, by rw [Int.tmod_eq_emod_of_nonneg (by omega)]; omega⟩
  have e0 := hn.symm
  obtain ⟨La, hLa⟩ : ∃ La, La = peaksL n := ⟨_, rfl⟩
  obtain ⟨Lc, hLc⟩ : ∃ Lc, Lc = peaksL m := ⟨_, rfl⟩
  have HLA := Aside0.mk (show La.length ≤ 41 from by rw [hLa]; exact peaksL_le n)
  have HLC := Aside0.mk (show Lc.length ≤ 41 from by rw [hLc]; exact peaksL_le m)
  have HPA := Aside0.mk (fun W => show Calls Try.prog 19 #[.int .u64 (n : Int)] W fun e w' => ∃ v : Value, e = .returned v ∧ Kd.R (Kd.int .u64) 22 w' W.heap.size (fun _ => True) v La ∧ Below W.heap.size W w' from by rw [hLa]; exact peaks_ok W n)
  have HPC := Aside0.mk (fun W => show Calls Try.prog 19 #[.int .u64 (m : Int)] W fun e w' => ∃ v : Value, e = .returned v ∧ Kd.R (Kd.int .u64) 22 w' W.heap.size (fun _ => True) v Lc ∧ Below W.heap.size W w' from by rw [hLc]; exact peaks_ok W m)
  clear f0 f1 hm0 hm hn hLa hLc
  go_enter Try.func10, Try.ntmps10
  go_wp2_with (fail)
  refine (alive_ok _).mono ?_
  rintro e w1 ⟨rfl, hb1⟩
  have HB1 := Aside0.mk hb1
  clear hb1
  go_wp2_with (fail)
  refine (HPA.out _).mono ?_
  rintro e w2 ⟨va, rfl, ha, hb2⟩
  have HA2 := Aside0.mk ha
  have HBL2 := Aside0.mk hb2
  have HB2 := Aside0.mk (below_weaken HB1.out HB1.out.size hb2)
  obtain ⟨Aa, ca, ea, hca, hCa⟩ := Kd.R_reads ha
  subst ea
  have HCA2 := Aside0.mk hCa
  have HCAC := Aside0.mk hca
  clear ha hb2 e0 hca hCa
  go_wp2_with (first | ((with_reducible refine gate_dst (N := 25) rfl ?_); refine Kd.R_lit (Kd.int .u64) w2.heap.size 22 ?hg (N := 25) ?hd (xs := ([] : List Int)) (inner := []) (ok := fun j => w2.heap.size ≤ j) (okp := fun _ => False) ?hr ?hp (fun _ hk => hk.elim) (Nat.le_refl _) (Below.refl _ _) (Nat.le_refl _) (by simp) ?_; (case hd => rfl); (case hg => rfl); (case hr => first | (go_simp; done) | (go_simp; rfl)); (case hp => exact (Reps.none _ _)); intro v3 w3 ho hb3 hg_ hnew_; have HO3 := Aside0.mk ho; have HBL3 := Aside0.mk hb3; clear hg_ hnew_ ho hb3) | ((with_reducible refine gate_builtin (b := .append) (xs := #[.tmp 25, .tmp 26]) rfl ?_); at_builtin; refine Kd.R_append_rows (Kd.int .u64) (w0 := w2) w2.heap.size rfl (.tmp 25) (.tmp 26) 30 22 (.int .u64 0) 8 rfl Try.underlying30 (by kernel_rfl) rfl (by decide) (by omega) v3 [] La _ _ _ (fun j => w2.heap.size ≤ j) (fun _ => False) rfl rfl ?aO ?aR (fun _ _ h => h) (fun _ h => h.elim) ?aF ?aB ?aS ?aL ?_; (case aO => exact HO3.out); (case aR => exact Kd.C_below HCA2.out HBL3.out); (case aF => exact fun j hj => Nat.le_trans HBL3.out.size hj); (case aB => exact HBL3.out); (case aS => exact HBL3.out.size); (case aL => have := HLA.out; simp; omega); intro v4 w4 ho hb4 hg hat; rw [List.nil_append] at ho; have HW4 := Aside0.mk ho; have HBL4 := Aside0.mk hb4; clear ho hb4 hg hat))
  obtain ⟨Aw, cw, ew, hcw, hCw⟩ := Kd.R_reads HW4.out
  subst ew
  have HCWC := Aside0.mk hcw
  have HCW4 := Aside0.mk hCw
  clear hcw hCw
  refine (HPA.out _).mono ?_
  rintro e w5 ⟨vb, rfl, hb, hb5⟩
  obtain ⟨Ab, cb, eb, hcb, hCb⟩ := Kd.R_reads hb
  subst eb
  have HB5R := Aside0.mk hb
  have HBL5 := Aside0.mk hb5
  have HCBC := Aside0.mk hcb
  have HCB5 := Aside0.mk hCb
  clear hb hb5 hcb hCb
  go_wp2_with (fail)
  refine (HPC.out _).mono ?_
  rintro e w6 ⟨vc, rfl, hc, hb6⟩
  obtain ⟨Ac, cc, ec, hcc, hCc⟩ := Kd.R_reads hc
  subst ec
  have HC6R := Aside0.mk hc
  have HBL6 := Aside0.mk hb6
  clear hc hb6 hcc hCc
  obtain ⟨col, hcol⟩ : ∃ col : Nat → Nat, col = fun j => if j < w1.heap.size then 0 else if j < w2.heap.size then 1 else if j < w4.heap.size then 4 else if j < w5.heap.size then 2 else 3 := ⟨_, rfl⟩
  have z12 := HBL2.out.size
  have z24 := HBL4.out.size
  have z45 := HBL5.out.size
  have z56 := HBL6.out.size
  have HRA := Aside0.mk (show Kd.R (Kd.int .u64) 22 w6 0 (fun j => col j = 1) (.slice Aa La.length ca) La from by
    refine Kd.R_below (Kd.R_below (Kd.R_below (R_col HA2.out (fun j h1 h2 => ?_)) HBL4.out) HBL5.out) HBL6.out
    rw [hcol]; simp only []; rw [if_neg (by omega), if_pos h2])
  have HRW := Aside0.mk (show Kd.R (Kd.int .u64) 22 w6 0 (fun j => col j = 4) (.slice Aw La.length cw) La from by
    refine Kd.R_below (Kd.R_below (R_col HW4.out (fun j h1 h2 => ?_)) HBL5.out) HBL6.out
    rw [hcol]; simp only []; rw [if_neg (by omega), if_neg (by omega), if_pos h2])
  have HRB := Aside0.mk (show Kd.R (Kd.int .u64) 22 w6 0 (fun j => col j = 2) (.slice Ab La.length cb) La from by
    refine Kd.R_below (R_col HB5R.out (fun j h1 h2 => ?_)) HBL6.out
    rw [hcol]; simp only []; rw [if_neg (by omega), if_neg (by omega), if_neg (by omega), if_pos h2])
  have HRC := Aside0.mk (show Kd.R (Kd.int .u64) 22 w6 0 (fun j => col j = 3) (.slice Ac Lc.length cc) Lc from by
    refine R_col HC6R.out (fun j h1 h2 => ?_)
    rw [hcol]; simp only []; rw [if_neg (by omega), if_neg (by omega), if_neg (by omega), if_neg (by omega)])
  have HB6 := Aside0.mk (below_weaken (below_weaken (below_weaken HB2.out HB2.out.size HBL4.out) (Nat.le_trans HB2.out.size z24) HBL5.out) (Nat.le_trans HB2.out.size (Nat.le_trans z24 z45)) HBL6.out)
  have HCA6 := Aside0.mk (Kd.C_below (Kd.C_below (Kd.C_below HCA2.out HBL4.out) HBL5.out) HBL6.out)
  have HCW6 := Aside0.mk (Kd.C_below (Kd.C_below HCW4.out HBL5.out) HBL6.out)
  have HCB6 := Aside0.mk (Kd.C_below HCB5.out HBL6.out)
  have HCO := Aside0.mk (show ∀ j, col j ≠ 0 → w.heap.size ≤ j from fun j hj => by
    have h1 := HB1.out.size
    rcases Nat.lt_or_ge j w1.heap.size with h2 | h2
    · exfalso; apply hj; rw [hcol]; simp only []; rw [if_pos h2]
    · omega)
  clear hcol z12 z24 z45 z56
  go_wp2_with (fail)
  refine (same_ok w6 La (by have := HLA.out; omega) Ab Aw cb cw HCB6.out HCBC.out HCW6.out HCWC.out).mono ?_
  rintro e w7 ⟨rfl, hb7⟩
  have HBL7 := Aside0.mk hb7
  clear hb7
  go_wp2_with (fail)
  refine (same_ok w7 La (by have := HLA.out; omega) Aa Aw ca cw (Kd.C_below HCA6.out HBL7.out) HCAC.out (Kd.C_below HCW6.out HBL7.out) HCWC.out).mono ?_
  rintro e w8 ⟨rfl, hb8⟩
  have HBL8 := Aside0.mk (below_weaken HBL7.out (Nat.le_refl _) (hb8.mono HBL7.out.size))
  clear hb8
  have HRA := Aside0.mk (Kd.R_below HRA.out HBL8.out)
  have HRB := Aside0.mk (Kd.R_below HRB.out HBL8.out)
  have HRC := Aside0.mk (Kd.R_below HRC.out HBL8.out)
  have HRW := Aside0.mk (Kd.R_below HRW.out HBL8.out)
  have HB := Aside0.mk (below_weaken HB6.out HB6.out.size HBL8.out)
  have HNL1 := HLA
  have HNL2 := HLA
  have HNL3 := HLC
  clear HCA6 HCW6 HCB6 HBL7 HBL8 HB6 HC6R HBL6 HB5R HBL5 HCB5 HW4 HBL4 HCW4 HBL2 HA2 HCA2 HBL3 HO3 HB2 HB1
  go_wp2_with (fail)
  go_loopg [9] La.length (fun kq q w' => ∃ (i : Nat) (X : List Int), q = .int .i64 (i : Int) ∧ Aside0 (i + kq = La.length) ∧ Aside0 (X.length = La.length ∧ ∀ p, p < i → X[p]? = some 1) ∧ Aside0 (Kd.R (Kd.int .u64) 22 w' 0 (fun j => col j = 1) (.slice Aa La.length ca) X) ∧ Aside0 (Kd.R (Kd.int .u64) 22 w' 0 (fun j => col j = 2) (.slice Ab La.length cb) (La)) ∧ Aside0 (Kd.R (Kd.int .u64) 22 w' 0 (fun j => col j = 3) (.slice Ac Lc.length cc) (Lc)) ∧ Aside0 (Kd.R (Kd.int .u64) 22 w' 0 (fun j => col j = 4) (.slice Aw La.length cw) (La)) ∧ Aside0 (Below w.heap.size w w'))
  case atStart => exact ⟨0, La, by rfl, ⟨by omega⟩, ⟨rfl, fun p hp => absurd hp (Nat.not_lt_zero _)⟩, HRA, HRB, HRC, HRW, HB⟩
  case round =>
   obtain ⟨i, X, rfl, HI, HX, HRA, HRB, HRC, HRW, HB⟩ := hrel
   cases gk with
   | succ k1 =>
    have hlt : decide ((i : Int) < (La.length : Int)) = true := decide_eq_true (by have := HI.out; omega)
    have hlt' : decide (i < La.length) = true := decide_eq_true (by have := HI.out; omega)
    have hil : i < La.length := by have := HI.out; omega
    have hn41 : La.length ≤ 41 := HNL1.out
    have u3 : wrap64 ((i : Int) + 1) = (i : Int) + 1 := MB.wrap64_in _ (by omega) (by omega)
    obtain ⟨g, cp, eg, _, gl, _⟩ := Kd.R_form HRA.out (by rw [HX.out.1]; omega)
    rw [HX.out.1] at eg
    cases eg
    have hcg : col g = 1 := HRA.out.1 g rfl
    obtain ⟨hx0, hf0⟩ := Kd.R_celln 0 HRA.out (i : Int) (by omega) (by omega)
    have HP := Kd.R_putg HRA.out (i : Int) 1
    rw [Int.toNat_natCast] at hx0 hf0 HP
    have p1 : (0 : Int) ≤ (i : Int) := by omega
    have p2 : (i : Int) < (La.length : Int) := by omega
    have hgw : w.heap.size ≤ g := HCO.out g (by omega)
    have HX2 := Aside0.mk (show (X.set i 1).length = La.length ∧ ∀ p, p < i + 1 → (X.set i 1)[p]? = some 1 from ⟨by rw [List.length_set]; exact HX.out.1, fun p hp => by
      by_cases e : i = p
      · subst e; rw [List.getElem?_set_self (by rw [HX.out.1]; exact hil)]
      · rw [List.getElem?_set_ne e]; exact HX.out.2 p (by omega)⟩)
    clear gl hil hn41
    go_wp2_with (fail)
    go_roundg k1
    case measure => exact Nat.lt_succ_self _
    case rel => exact ⟨i + 1, X.set i 1, by rw [u3]; rfl, ⟨by have := HI.out; omega⟩, HX2, ⟨HP.1⟩, ⟨R_other HRB.out HP.2 (fun j hj => by cases hj; rw [hcg]; omega)⟩, ⟨R_other HRC.out HP.2 (fun j hj => by cases hj; rw [hcg]; omega)⟩, ⟨R_other HRW.out HP.2 (fun j hj => by cases hj; rw [hcg]; omega)⟩, ⟨below_set HB.out hgw⟩⟩
   | zero =>
    have hlt : decide ((i : Int) < (La.length : Int)) = false := decide_eq_false (by have := HI.out; omega)
    have hlt' : decide (i < La.length) = false := decide_eq_false (by have := HI.out; omega)
    have eX : X = List.replicate La.length 1 := all_eq HX.out.1 (fun p hp => HX.out.2 p (by have := HI.out; omega))
    rw [eX] at HRA
    clear eX
    go_wp2_with (fail)
    clear hlt hlt' HI HX
    obtain ⟨w1m, hwm⟩ : ∃ x, x = wr := ⟨_, rfl⟩
    rw [← hwm] at HRA HRB HRC HRW HB ⊢
    clear hwm
    go_loopg [10] La.length (fun kq q w' => ∃ (i : Nat) (X : List Int), q = .int .i64 (i : Int) ∧ Aside0 (i + kq = La.length) ∧ Aside0 (X.length = La.length ∧ ∀ p, p < i → X[p]? = some 2) ∧ Aside0 (Kd.R (Kd.int .u64) 22 w' 0 (fun j => col j = 2) (.slice Ab La.length cb) X) ∧ Aside0 (Kd.R (Kd.int .u64) 22 w' 0 (fun j => col j = 1) (.slice Aa La.length ca) (List.replicate La.length 1)) ∧ Aside0 (Kd.R (Kd.int .u64) 22 w' 0 (fun j => col j = 3) (.slice Ac Lc.length cc) (Lc)) ∧ Aside0 (Kd.R (Kd.int .u64) 22 w' 0 (fun j => col j = 4) (.slice Aw La.length cw) (La)) ∧ Aside0 (Below w.heap.size w w'))
    case atStart => exact ⟨0, La, by rfl, ⟨by omega⟩, ⟨rfl, fun p hp => absurd hp (Nat.not_lt_zero _)⟩, HRB, HRA, HRC, HRW, HB⟩
    case round =>
     obtain ⟨i, X, rfl, HI, HX, HRB, HRA, HRC, HRW, HB⟩ := hrel
     cases gk with
     | succ k1 =>
      have hlt : decide ((i : Int) < (La.length : Int)) = true := decide_eq_true (by have := HI.out; omega)
      have hlt' : decide (i < La.length) = true := decide_eq_true (by have := HI.out; omega)
      have hil : i < La.length := by have := HI.out; omega
      have hn41 : La.length ≤ 41 := HNL2.out
      have u3 : wrap64 ((i : Int) + 1) = (i : Int) + 1 := MB.wrap64_in _ (by omega) (by omega)
      obtain ⟨g, cp, eg, _, gl, _⟩ := Kd.R_form HRB.out (by rw [HX.out.1]; omega)
      rw [HX.out.1] at eg
      cases eg
      have hcg : col g = 2 := HRB.out.1 g rfl
      obtain ⟨hx0, hf0⟩ := Kd.R_celln 0 HRB.out (i : Int) (by omega) (by omega)
      have HP := Kd.R_putg HRB.out (i : Int) 2
      rw [Int.toNat_natCast] at hx0 hf0 HP
      have p1 : (0 : Int) ≤ (i : Int) := by omega
      have p2 : (i : Int) < (La.length : Int) := by omega
      have hgw : w.heap.size ≤ g := HCO.out g (by omega)
      have HX2 := Aside0.mk (show (X.set i 2).length = La.length ∧ ∀ p, p < i + 1 → (X.set i 2)[p]? = some 2 from ⟨by rw [List.length_set]; exact HX.out.1, fun p hp => by
        by_cases e : i = p
        · subst e; rw [List.getElem?_set_self (by rw [HX.out.1]; exact hil)]
        · rw [List.getElem?_set_ne e]; exact HX.out.2 p (by omega)⟩)
      clear gl hil hn41
      go_wp2_with (fail)
      go_roundg k1
      case measure => exact Nat.lt_succ_self _
      case rel => exact ⟨i + 1, X.set i 2, by rw [u3]; rfl, ⟨by have := HI.out; omega⟩, HX2, ⟨HP.1⟩, ⟨R_other HRA.out HP.2 (fun j hj => by cases hj; rw [hcg]; omega)⟩, ⟨R_other HRC.out HP.2 (fun j hj => by cases hj; rw [hcg]; omega)⟩, ⟨R_other HRW.out HP.2 (fun j hj => by cases hj; rw [hcg]; omega)⟩, ⟨below_set HB.out hgw⟩⟩
     | zero =>
      have hlt : decide ((i : Int) < (La.length : Int)) = false := decide_eq_false (by have := HI.out; omega)
      have hlt' : decide (i < La.length) = false := decide_eq_false (by have := HI.out; omega)
      have eX : X = List.replicate La.length 2 := all_eq HX.out.1 (fun p hp => HX.out.2 p (by have := HI.out; omega))
      rw [eX] at HRB
      clear eX
      go_wp2_with (fail)
      clear hlt hlt' HI HX
      obtain ⟨w2m, hwm⟩ : ∃ x, x = wr := ⟨_, rfl⟩
      rw [← hwm] at HRB HRA HRC HRW HB ⊢
      clear hwm
      go_loopg [11] Lc.length (fun kq q w' => ∃ (i : Nat) (X : List Int), q = .int .i64 (i : Int) ∧ Aside0 (i + kq = Lc.length) ∧ Aside0 (X.length = Lc.length ∧ ∀ p, p < i → X[p]? = some 3) ∧ Aside0 (Kd.R (Kd.int .u64) 22 w' 0 (fun j => col j = 3) (.slice Ac Lc.length cc) X) ∧ Aside0 (Kd.R (Kd.int .u64) 22 w' 0 (fun j => col j = 1) (.slice Aa La.length ca) (List.replicate La.length 1)) ∧ Aside0 (Kd.R (Kd.int .u64) 22 w' 0 (fun j => col j = 2) (.slice Ab La.length cb) (List.replicate La.length 2)) ∧ Aside0 (Kd.R (Kd.int .u64) 22 w' 0 (fun j => col j = 4) (.slice Aw La.length cw) (La)) ∧ Aside0 (Below w.heap.size w w'))
      case atStart => exact ⟨0, Lc, by rfl, ⟨by omega⟩, ⟨rfl, fun p hp => absurd hp (Nat.not_lt_zero _)⟩, HRC, HRA, HRB, HRW, HB⟩
      case round =>
       obtain ⟨i, X, rfl, HI, HX, HRC, HRA, HRB, HRW, HB⟩ := hrel
       cases gk with
       | succ k1 =>
        have hlt : decide ((i : Int) < (Lc.length : Int)) = true := decide_eq_true (by have := HI.out; omega)
        have hlt' : decide (i < Lc.length) = true := decide_eq_true (by have := HI.out; omega)
        have hil : i < Lc.length := by have := HI.out; omega
        have hn41 : Lc.length ≤ 41 := HNL3.out
        have u3 : wrap64 ((i : Int) + 1) = (i : Int) + 1 := MB.wrap64_in _ (by omega) (by omega)
        obtain ⟨g, cp, eg, _, gl, _⟩ := Kd.R_form HRC.out (by rw [HX.out.1]; omega)
        rw [HX.out.1] at eg
        cases eg
        have hcg : col g = 3 := HRC.out.1 g rfl
        obtain ⟨hx0, hf0⟩ := Kd.R_celln 0 HRC.out (i : Int) (by omega) (by omega)
        have HP := Kd.R_putg HRC.out (i : Int) 3
        rw [Int.toNat_natCast] at hx0 hf0 HP
        have p1 : (0 : Int) ≤ (i : Int) := by omega
        have p2 : (i : Int) < (Lc.length : Int) := by omega
        have hgw : w.heap.size ≤ g := HCO.out g (by omega)
        have HX2 := Aside0.mk (show (X.set i 3).length = Lc.length ∧ ∀ p, p < i + 1 → (X.set i 3)[p]? = some 3 from ⟨by rw [List.length_set]; exact HX.out.1, fun p hp => by
          by_cases e : i = p
          · subst e; rw [List.getElem?_set_self (by rw [HX.out.1]; exact hil)]
          · rw [List.getElem?_set_ne e]; exact HX.out.2 p (by omega)⟩)
        clear gl hil hn41
        go_wp2_with (fail)
        go_roundg k1
        case measure => exact Nat.lt_succ_self _
        case rel => exact ⟨i + 1, X.set i 3, by rw [u3]; rfl, ⟨by have := HI.out; omega⟩, HX2, ⟨HP.1⟩, ⟨R_other HRA.out HP.2 (fun j hj => by cases hj; rw [hcg]; omega)⟩, ⟨R_other HRB.out HP.2 (fun j hj => by cases hj; rw [hcg]; omega)⟩, ⟨R_other HRW.out HP.2 (fun j hj => by cases hj; rw [hcg]; omega)⟩, ⟨below_set HB.out hgw⟩⟩
       | zero =>
        have hlt : decide ((i : Int) < (Lc.length : Int)) = false := decide_eq_false (by have := HI.out; omega)
        have hlt' : decide (i < Lc.length) = false := decide_eq_false (by have := HI.out; omega)
        have eX : X = List.replicate Lc.length 3 := all_eq HX.out.1 (fun p hp => HX.out.2 p (by have := HI.out; omega))
        rw [eX] at HRC
        clear eX
        go_wp2_with (fail)
        clear hlt hlt' HI HX
        obtain ⟨w3m, hwm⟩ : ∃ x, x = wr := ⟨_, rfl⟩
        rw [← hwm] at HRC HRA HRB HRW HB ⊢
        clear hwm
        obtain ⟨ga, fa, hga⟩ := Fam.start HRA.out
        obtain ⟨gb, fb, hgb⟩ := Fam.start HRB.out
        obtain ⟨gc, fc, hgc⟩ := Fam.start HRC.out
        have FA := Aside0.mk fa
        have FB := Aside0.mk fb
        have FC := Aside0.mk fc
        have HGA := Aside0.mk hga
        have HGB := Aside0.mk hgb
        have HGC := Aside0.mk hgc
        clear fa fb fc hga hgb hgc
        go_loopg [12, 13, 14, 15] 70 (fun kq q12 q13 q14 q15 w' => ∃ (i : Nat) (col : Nat → Nat), q15 = .int .i64 (i : Int) ∧ Aside0 (i + kq = 70) ∧ Aside0 (Fam w' .u64 22 col 1 ga La.length q12 1 (La.length + i)) ∧ Aside0 (Fam w' .u64 22 col 2 gb La.length q13 2 (La.length + i)) ∧ Aside0 (Fam w' .u64 22 col 3 gc Lc.length q14 3 (Lc.length + i)) ∧ Aside0 (Kd.R (Kd.int .u64) 22 w' 0 (fun j => col j = 4) (.slice Aw La.length cw) La) ∧ Aside0 (∀ j, col j ≠ 0 → w.heap.size ≤ j) ∧ Aside0 (Below w.heap.size w w'))
        case atStart => exact ⟨0, col, by rfl, ⟨by omega⟩, FA, FB, FC, HRW, HCO, HB⟩
        case round =>
         obtain ⟨i, col, rfl, HI, FA, FB, FC, HRW, HCO, HB⟩ := hrel
         cases gk with
         | succ k1 =>
          have hlt : decide ((i : Int) < (70 : Int)) = true := decide_eq_true (by have := HI.out; omega)
          have hlt' : decide (i < 70) = true := decide_eq_true (by have := HI.out; omega)
          have HIL := Aside0.mk (show i < 70 from by have := HI.out; omega)
          have HZ := Aside0.mk HB.out.size
          have u3 : wrap64 ((i : Int) + 1) = (i : Int) + 1 := MB.wrap64_in _ (by omega) (by have := HIL.out; omega)
          go_wp2_with (first
            | ((with_reducible refine gate_builtin (b := .append) (xs := #[.tmp 76, .tmp 77]) rfl ?_); at_builtin; refine wpList_append_apart (Kd.int .u64) rfl (.tmp 76) (.tmp 77) 30 22 (.int .u64 0) 8 rfl Try.underlying30 (by kernel_rfl) rfl (by decide) u12 (List.replicate (La.length + i) 1) 1 [.int .u64 1] (fun j => col j = 1 ∨ wr.heap.size ≤ j) rfl ?hx ?aP ?aF ?aO ?aL (by omega) ?_; (case hx => first | rfl | (go_simp; done) | (simp [World.alloc]; done)); (case aP => exact rfl); (case aF => exact fun j hj => .inr hj); (case aO => exact Kd.R_mono FA.out.row (fun j hj => .inl hj)); (case aL => rw [List.length_replicate]; have := HLA.out; have := HIL.out; omega); intro x1 y1 hR hg ho; have FA1 := Aside0.mk (FA.out.push hR hg ho); have FB1 := Aside0.mk (step_other FB.out FA.out (by decide) hg); have FC1 := Aside0.mk (step_other FC.out FA.out (by decide) hg); have HW1 := Aside0.mk (step_row HRW.out FA.out (by decide) hg); have HCO1 := Aside0.mk (step_old (t := 1) HCO.out HZ.out); have HB1 := Aside0.mk (step_below FA.out (by decide) HCO.out HB.out hg); have HZ1 := Aside0.mk HB1.out.size; clear hR hg ho)
            | ((with_reducible refine gate_builtin (b := .append) (xs := #[.tmp 79, .tmp 80]) rfl ?_); at_builtin; refine wpList_append_apart (Kd.int .u64) rfl (.tmp 79) (.tmp 80) 30 22 (.int .u64 0) 8 rfl Try.underlying30 (by kernel_rfl) rfl (by decide) u13 (List.replicate (La.length + i) 2) 2 [.int .u64 2] (fun j => coled wr col 1 j = 2 ∨ y1.heap.size ≤ j) rfl ?hx ?aP ?aF ?aO ?aL (by omega) ?_; (case hx => first | rfl | (go_simp; done) | (simp [World.alloc]; done)); (case aP => exact rfl); (case aF => exact fun j hj => .inr hj); (case aO => exact Kd.R_mono FB1.out.row (fun j hj => .inl hj)); (case aL => rw [List.length_replicate]; have := HLA.out; have := HIL.out; omega); intro x2 y2 hR hg ho; have FB2 := Aside0.mk (FB1.out.push hR hg ho); have FA2 := Aside0.mk (step_other FA1.out FB1.out (by decide) hg); have FC2 := Aside0.mk (step_other FC1.out FB1.out (by decide) hg); have HW2 := Aside0.mk (step_row HW1.out FB1.out (by decide) hg); have HCO2 := Aside0.mk (step_old (t := 2) HCO1.out HZ1.out); have HB2 := Aside0.mk (step_below FB1.out (by decide) HCO1.out HB1.out hg); have HZ2 := Aside0.mk HB2.out.size; clear hR hg ho)
            | ((with_reducible refine gate_builtin (b := .append) (xs := #[.tmp 82, .tmp 83]) rfl ?_); at_builtin; refine wpList_append_apart (Kd.int .u64) rfl (.tmp 82) (.tmp 83) 30 22 (.int .u64 0) 8 rfl Try.underlying30 (by kernel_rfl) rfl (by decide) u14 (List.replicate (Lc.length + i) 3) 3 [.int .u64 3] (fun j => coled y1 (coled wr col 1) 2 j = 3 ∨ y2.heap.size ≤ j) rfl ?hx ?aP ?aF ?aO ?aL (by omega) ?_; (case hx => first | rfl | (go_simp; done) | (simp [World.alloc]; done)); (case aP => exact rfl); (case aF => exact fun j hj => .inr hj); (case aO => exact Kd.R_mono FC2.out.row (fun j hj => .inl hj)); (case aL => rw [List.length_replicate]; have := HLC.out; have := HIL.out; omega); intro x3 y3 hR hg ho; have FC3 := Aside0.mk (FC2.out.push hR hg ho); have FA3 := Aside0.mk (step_other FA2.out FC2.out (by decide) hg); have FB3 := Aside0.mk (step_other FB2.out FC2.out (by decide) hg); have HW3 := Aside0.mk (step_row HW2.out FC2.out (by decide) hg); have HCO3 := Aside0.mk (step_old (t := 3) HCO2.out HZ2.out); have HB3 := Aside0.mk (step_below FC2.out (by decide) HCO2.out HB2.out hg); clear hR hg ho))
          go_roundg k1
          case measure => exact Nat.lt_succ_self _
          case rel => exact ⟨i + 1, _, by rw [u3]; rfl, ⟨by have := HI.out; omega⟩, FA3, FB3, FC3, HW3, HCO3, HB3⟩
         | zero =>
          have hlt : decide ((i : Int) < (70 : Int)) = false := decide_eq_false (by have := HI.out; omega)
          have hlt' : decide (i < 70) = false := decide_eq_false (by have := HI.out; omega)
          have ei : i = 70 := by have := HI.out; omega
          subst ei
          obtain ⟨Ax, cx, ex, _, _⟩ := Kd.R_reads FA.out.row
          obtain ⟨Ay, cy, ey, _, _⟩ := Kd.R_reads FB.out.row
          obtain ⟨Az, cz, ez, _, _⟩ := Kd.R_reads FC.out.row
          rw [List.length_replicate] at ex ey ez
          subst ex ey ez
          obtain ⟨wz, hwz⟩ : ∃ x, x = wr := ⟨_, rfl⟩
          rw [← hwz] at FA FB FC HRW HB ⊢
          have HBZ := Aside0.mk (Below.refl wz.heap.size wz)
          clear hwz HI
          obtain ⟨N1, hN1⟩ : ∃ N1, N1 = La.length + 70 := ⟨_, rfl⟩
          obtain ⟨N3, hN3⟩ : ∃ N3, N3 = Lc.length + 70 := ⟨_, rfl⟩
          rw [← hN1] at FA FB ⊢
          rw [← hN3] at FC ⊢
          have HN1 := Aside0.mk hN1
          have HN3 := Aside0.mk hN3
          clear hN1 hN3
          go_wp2_with (fail)
          clear hlt hlt'
          go_loopg [16] N1 (fun kq q w' => ∃ i : Nat, q = .int .i64 (i : Int) ∧ Aside0 (i + kq = N1) ∧ Aside0 (Below wz.heap.size wz w'))
          case atStart => exact ⟨0, by rfl, ⟨by omega⟩, HBZ⟩
          case round =>
           obtain ⟨i, rfl, HI, HBZ⟩ := hrel
           cases gk with
           | succ k1 =>
            have hil : i < N1 := by have := HI.out; omega
            have HJ := Aside0.mk (show i + 1 + k1 = N1 from by have := HI.out; omega)
            have hN41 : N1 ≤ 111 := by have := HLA.out; have := HN1.out; omega
            have hNn : La.length ≤ N1 := by have := HN1.out; omega
            have hlt : decide ((i : Int) < (N1 : Int)) = true := decide_eq_true (by omega)
            have hlt' : decide (i < N1) = true := decide_eq_true hil
            have b2 : -9223372036854775808 ≤ (i : Int) + 1 ∧ (i : Int) + 1 ≤ 9223372036854775807 := by omega
            have hR := Kd.R_below FA.out.row HBZ.out
            obtain ⟨gx, cp, eg, _, _, _⟩ := Kd.R_form hR (by rw [List.length_replicate]; omega)
            rw [List.length_replicate] at eg
            cases eg
            have hx := (Kd.R_celln (0 : Int) hR (i : Int) (by omega) (by omega)).1
            have e1 : rdOf (0 : Int) (List.replicate N1 1) (i : Int) = 1 := by
              unfold rdOf
              rw [Int.toNat_natCast, List.getD_eq_getElem?_getD, List.getElem?_replicate, if_pos hil]; rfl
            rw [Int.toNat_natCast, e1] at hx
            have p1 : (0 : Int) ≤ (i : Int) := by omega
            have p2 : (i : Int) < (N1 : Int) := by omega
            by_cases hin : i < La.length
            · have ha := HGA.out (by omega)
              have hcel := FA.out.cells i hin
              have hc := (HBZ.out.cell (World.block_lt_of_cell? _ _ hcel)).trans hcel
              subst ha
              have p3 : (i : Int) < (La.length : Int) := by omega
              have d1 : decide ((i : Int) < (La.length : Int)) = true := decide_eq_true p3
              have d2 : decide (i < La.length) = true := decide_eq_true hin
              have u3 : wrap64 ((i : Int) + 1) = (i : Int) + 1 := MB.wrap64_in _ b2.1 b2.2
              clear hil hN41 hNn hR e1 hin hcel b2
              go_wp2_with (fail)
              go_roundg k1
              case measure => exact Nat.lt_succ_self _
              case rel => exact ⟨i + 1, by first | rfl | (rw [u3]; rfl), HJ, HBZ⟩
            · have d1 : decide ((i : Int) < (La.length : Int)) = false := decide_eq_false (by omega)
              have d2 : decide (i < La.length) = false := decide_eq_false hin
              have u3 : wrap64 ((i : Int) + 1) = (i : Int) + 1 := MB.wrap64_in _ b2.1 b2.2
              clear hil hN41 hNn hR e1 hin b2
              go_wp2_with (fail)
              go_roundg k1
              case measure => exact Nat.lt_succ_self _
              case rel => exact ⟨i + 1, by first | rfl | (rw [u3]; rfl), HJ, HBZ⟩
           | zero =>
            have hlt : decide ((i : Int) < (N1 : Int)) = false := decide_eq_false (by have := HI.out; omega)
            have hlt' : decide (i < N1) = false := decide_eq_false (by have := HI.out; omega)
            go_wp2_with (fail)
            clear hlt hlt' HI
            go_loopg [17] N1 (fun kq q w' => ∃ i : Nat, q = .int .i64 (i : Int) ∧ Aside0 (i + kq = N1) ∧ Aside0 (Below wz.heap.size wz w'))
            case atStart => exact ⟨0, by rfl, ⟨by omega⟩, HBZ⟩
            case round =>
             obtain ⟨i, rfl, HI, HBZ⟩ := hrel
             cases gk with
             | succ k1 =>
              have hil : i < N1 := by have := HI.out; omega
              have HJ := Aside0.mk (show i + 1 + k1 = N1 from by have := HI.out; omega)
              have hN41 : N1 ≤ 111 := by have := HLA.out; have := HN1.out; omega
              have hNn : La.length ≤ N1 := by have := HN1.out; omega
              have hlt : decide ((i : Int) < (N1 : Int)) = true := decide_eq_true (by omega)
              have hlt' : decide (i < N1) = true := decide_eq_true hil
              have b2 : -9223372036854775808 ≤ (i : Int) + 1 ∧ (i : Int) + 1 ≤ 9223372036854775807 := by omega
              have hR := Kd.R_below FB.out.row HBZ.out
              obtain ⟨gx, cp, eg, _, _, _⟩ := Kd.R_form hR (by rw [List.length_replicate]; omega)
              rw [List.length_replicate] at eg
              cases eg
              have hx := (Kd.R_celln (0 : Int) hR (i : Int) (by omega) (by omega)).1
              have e1 : rdOf (0 : Int) (List.replicate N1 2) (i : Int) = 2 := by
                unfold rdOf
                rw [Int.toNat_natCast, List.getD_eq_getElem?_getD, List.getElem?_replicate, if_pos hil]; rfl
              rw [Int.toNat_natCast, e1] at hx
              have p1 : (0 : Int) ≤ (i : Int) := by omega
              have p2 : (i : Int) < (N1 : Int) := by omega
              by_cases hin : i < La.length
              · have ha := HGB.out (by omega)
                have hcel := FB.out.cells i hin
                have hc := (HBZ.out.cell (World.block_lt_of_cell? _ _ hcel)).trans hcel
                subst ha
                have p3 : (i : Int) < (La.length : Int) := by omega
                have d1 : decide ((i : Int) < (La.length : Int)) = true := decide_eq_true p3
                have d2 : decide (i < La.length) = true := decide_eq_true hin
                have u3 : wrap64 ((i : Int) + 1) = (i : Int) + 1 := MB.wrap64_in _ b2.1 b2.2
                clear hil hN41 hNn hR e1 hin hcel b2
                go_wp2_with (fail)
                go_roundg k1
                case measure => exact Nat.lt_succ_self _
                case rel => exact ⟨i + 1, by first | rfl | (rw [u3]; rfl), HJ, HBZ⟩
              · have d1 : decide ((i : Int) < (La.length : Int)) = false := decide_eq_false (by omega)
                have d2 : decide (i < La.length) = false := decide_eq_false hin
                have u3 : wrap64 ((i : Int) + 1) = (i : Int) + 1 := MB.wrap64_in _ b2.1 b2.2
                clear hil hN41 hNn hR e1 hin b2
                go_wp2_with (fail)
                go_roundg k1
                case measure => exact Nat.lt_succ_self _
                case rel => exact ⟨i + 1, by first | rfl | (rw [u3]; rfl), HJ, HBZ⟩
             | zero =>
              have hlt : decide ((i : Int) < (N1 : Int)) = false := decide_eq_false (by have := HI.out; omega)
              have hlt' : decide (i < N1) = false := decide_eq_false (by have := HI.out; omega)
              go_wp2_with (fail)
              clear hlt hlt' HI
              go_loopg [18] N3 (fun kq q w' => ∃ i : Nat, q = .int .i64 (i : Int) ∧ Aside0 (i + kq = N3) ∧ Aside0 (Below wz.heap.size wz w'))
              case atStart => exact ⟨0, by rfl, ⟨by omega⟩, HBZ⟩
              case round =>
               obtain ⟨i, rfl, HI, HBZ⟩ := hrel
               cases gk with
               | succ k1 =>
                have hil : i < N3 := by have := HI.out; omega
                have HJ := Aside0.mk (show i + 1 + k1 = N3 from by have := HI.out; omega)
                have hN41 : N3 ≤ 111 := by have := HLC.out; have := HN3.out; omega
                have hNn : Lc.length ≤ N3 := by have := HN3.out; omega
                have hlt : decide ((i : Int) < (N3 : Int)) = true := decide_eq_true (by omega)
                have hlt' : decide (i < N3) = true := decide_eq_true hil
                have b2 : -9223372036854775808 ≤ (i : Int) + 1 ∧ (i : Int) + 1 ≤ 9223372036854775807 := by omega
                have hR := Kd.R_below FC.out.row HBZ.out
                obtain ⟨gx, cp, eg, _, _, _⟩ := Kd.R_form hR (by rw [List.length_replicate]; omega)
                rw [List.length_replicate] at eg
                cases eg
                have hx := (Kd.R_celln (0 : Int) hR (i : Int) (by omega) (by omega)).1
                have e1 : rdOf (0 : Int) (List.replicate N3 3) (i : Int) = 3 := by
                  unfold rdOf
                  rw [Int.toNat_natCast, List.getD_eq_getElem?_getD, List.getElem?_replicate, if_pos hil]; rfl
                rw [Int.toNat_natCast, e1] at hx
                have p1 : (0 : Int) ≤ (i : Int) := by omega
                have p2 : (i : Int) < (N3 : Int) := by omega
                by_cases hin : i < Lc.length
                · have ha := HGC.out (by omega)
                  have hcel := FC.out.cells i hin
                  have hc := (HBZ.out.cell (World.block_lt_of_cell? _ _ hcel)).trans hcel
                  subst ha
                  have p3 : (i : Int) < (Lc.length : Int) := by omega
                  have d1 : decide ((i : Int) < (Lc.length : Int)) = true := decide_eq_true p3
                  have d2 : decide (i < Lc.length) = true := decide_eq_true hin
                  have u3 : wrap64 ((i : Int) + 1) = (i : Int) + 1 := MB.wrap64_in _ b2.1 b2.2
                  clear hil hN41 hNn hR e1 hin hcel b2
                  go_wp2_with (fail)
                  go_roundg k1
                  case measure => exact Nat.lt_succ_self _
                  case rel => exact ⟨i + 1, by first | rfl | (rw [u3]; rfl), HJ, HBZ⟩
                · have d1 : decide ((i : Int) < (Lc.length : Int)) = false := decide_eq_false (by omega)
                  have d2 : decide (i < Lc.length) = false := decide_eq_false hin
                  have u3 : wrap64 ((i : Int) + 1) = (i : Int) + 1 := MB.wrap64_in _ b2.1 b2.2
                  clear hil hN41 hNn hR e1 hin b2
                  go_wp2_with (fail)
                  go_roundg k1
                  case measure => exact Nat.lt_succ_self _
                  case rel => exact ⟨i + 1, by first | rfl | (rw [u3]; rfl), HJ, HBZ⟩
               | zero =>
                have hlt : decide ((i : Int) < (N3 : Int)) = false := decide_eq_false (by have := HI.out; omega)
                have hlt' : decide (i < N3) = false := decide_eq_false (by have := HI.out; omega)
                go_wp2_with (fail)
                clear hlt hlt' HI
                refine (HPA.out _).mono ?_
                rintro e w9 ⟨vd, rfl, hd, hb9⟩
                obtain ⟨Ad, cd, ed, hcd, hCd⟩ := Kd.R_reads hd
                subst ed
                obtain ⟨Aw', cw', ew, hcw, hCw⟩ := Kd.R_reads HRW.out
                cases ew
                have HB9 := Aside0.mk (below_weaken (below_weaken HB.out HB.out.size HBZ.out) (Nat.le_trans HB.out.size HBZ.out.size) hb9)
                have HCD := Aside0.mk hCd
                have HCW := Aside0.mk (Kd.C_below (Kd.C_below hCw HBZ.out) hb9)
                have HCDC := Aside0.mk hcd
                clear hd hb9 hcd hCd hcw hCw
                go_wp2_with (fail)
                refine (same_ok w9 La (by have := HLA.out; omega) Ad Aw cd cw HCD.out HCDC.out HCW.out HCWC.out).mono ?_
                rintro e w10 ⟨rfl, hb10⟩
                have HB10 := Aside0.mk (below_weaken HB9.out HB9.out.size hb10)
                clear hb10
                go_wp2_with (fail)
                go_ret
                exact ⟨rfl, HB10.out⟩
end Go.Proofs.Ytlbehenaoiddkaa.Pm
