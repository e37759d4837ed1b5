/- Package peaks: carry: a tree laid behind all. No condition beyond those that each theorem names. -/
import Derived.Test.YtdclafjgfnbibaaPkP
import Derived.Test.YtdclafjgfnbibaaOb
import Derived.Test.YtdclafjgfnbibaaPk1
import Derived.Test.YtdclafjgfnbibaaQPeaksRefused
import Derived.ScopeJumps
import Derived.WalkMore
import Derived.Outline
set_option linter.unusedVariables false
set_option linter.unusedSimpArgs false
namespace Go.Proofs.Ytdclafjgfnbibaa.Pk
open Go.RowKit Go.Proofs.Ytdclafjgfnbibaa.MB Go.Proofs.YtdclafjgfnbibaaW.PrintWords Go.Proofs.YtdclafjgfnbibaaW.PrintLast Go.Proofs.YtdclafjgfnbibaaW.PrintMore Go.Proofs.Ytdclafjgfnbibaa.PPeaksRefused Go.Proofs.Ytdclafjgfnbibaa.Ob
theorem node_calls (k : Int) (hk : k ≤ 32) (a b : ByteArray) (w : World) (ha : (a.size : Int) ≤ 32) (hb : (b.size : Int) ≤ 32) :
    Calls Try.prog 17 #[.int .i64 k, .string a, .string b] w fun e w' => e = .returned (.string (MH.nd k a b)) ∧ Below w.heap.size w w' :=
  hash_Node.calls k a b _ w (hash_Node.is k a b (by omega))
/-- What carry leaves. -/
def Carried (w : World) (hb : Nat) (ok : Nat → Prop) (k : Int) (n h : Nat) (L : List ByteArray) (d : ByteArray) (e : Ending) (w' : World) : Prop :=
  ∃ v, e = .returned v ∧ Kd.string.R 9 w' w.heap.size (fun j => w.heap.size ≤ j) v (mades k L d (t1 (n / 2 ^ h))) ∧
    Rg w' hb (fun j => (ok j ∧ j < w.heap.size) ∨ (w.heap.size ≤ j ∧ some j ≠ v.ownBlock)) k ((n + 2 ^ h : Nat) : Int) (carL k L d (t1 (n / 2 ^ h))) ∧ Kp w w' ok
theorem carried_end (w w' w1 : World) (hb : Nat) (ok : Nat → Prop) (k : Int) (n h : Nat) (L : List ByteArray) (d z : ByteArray) (vm : Value) (A A1 : Option Addr) (c N1 c1 i m : Nat)
    (HLT : hb < w.heap.size) (HOK : ok hb) (HSZ : n + 2 ^ h ≤ 2 ^ 40) (hi : i = t1 (n / 2 ^ h)) (hz : z = ups k L d i) (hm : m = L.length - i)
    (HM : Kd.string.R 9 w' w.heap.size (fun j => w.heap.size ≤ j) vm (mades k L d i)) (HB : Below w.heap.size w w')
    (HRL : ∀ (j : Nat), (Value.slice A m c).ownBlock = some j → ok j ∧ j ≠ hb ∧ j < w.heap.size)
    (HO1 : Kd.string.R 9 w1 0 (fun j => (ok j ∧ j ≠ hb) ∨ w'.heap.size ≤ j) (.slice A1 N1 c1) (L.take m ++ [z]))
    (HG1 : w'.grownBy w1 (Value.slice A m c).ownBlock)
    (HAT : (Value.slice A1 N1 c1).ownBlock = (Value.slice A m c).ownBlock ∨ ∃ b, (Value.slice A1 N1 c1).ownBlock = some b ∧ w'.heap.size ≤ b)
    (HBK2 : (w1.setCell ⟨hb, 2, none⟩ (.slice A1 N1 c1)).heap[hb]? = some (.cells #[.int .i64 k, .int .u64 n, .slice A1 N1 c1] 58 (0, 0))) :
    Carried w hb ok k n h L d (.returned vm) (((w1.setCell ⟨hb, 2, none⟩ (.slice A1 N1 c1)).setCell ⟨hb, 1, none⟩ (.int .u64 (IntKind.u64.wrap ((n : Int) + IntKind.u64.wrap (2 ^ h))))).drew) := by
  subst hi hz hm
  have e1 : IntKind.u64.wrap ((n : Int) + IntKind.u64.wrap (2 ^ h)) = ((n + 2 ^ h : Nat) : Int) := by
    have e2 : ((2 : Int) ^ h) = ((2 ^ h : Nat) : Int) := by push_cast; rfl
    rw [e2, MB.wrap_u64_cast (2 ^ h) (by omega), ← Int.natCast_add, MB.wrap_u64_cast _ (by omega)]
  have hw' := HB.size
  refine ⟨vm, rfl, ?_, ⟨.inl ⟨HOK, HLT⟩, .slice A1 N1 c1, ?_, ?_⟩, ?_⟩
  · refine Kd.R_drew (Kd.R_far (Kd.R_far (Kd.R_grown HM HG1 (fun j hj e => ?_)) (fun j hj => ?_) _) (fun j hj => ?_) _)
    · have := (HRL j e.symm).2.2; omega
    · show j ≠ hb; omega
    · show j ≠ hb; omega
  · rw [e1]; exact blk_put HBK2 _ _ rfl
  · refine Kd.R_drew (Kd.R_far (Kd.R_far (Kd.R_of_own (Kd.own_of_R HO1) (fun j hj => ?_)) (fun j hj => hj.2) _) (fun j hj => hj.2) _)
    rcases HAT with h1 | ⟨b, h1, h2⟩
    · have := HRL j (h1 ▸ hj)
      exact ⟨.inl ⟨this.1, this.2.2⟩, this.2.1⟩
    · rw [h1] at hj
      have e : b = j := Option.some.inj hj
      subst e
      refine ⟨.inr ⟨by omega, fun e => ?_⟩, by omega⟩
      have := Kd.R_lt HM b e.symm; omega
  · exact (((((Kp.below (S := ok) HB).grown HG1 (fun j hj => .inl (HRL j hj).1)).set (a := ⟨hb, 2, none⟩) (.inl HOK) _).set (a := ⟨hb, 1, none⟩) (.inl HOK) _).drewN 1)
set_option maxHeartbeats 8000000 in
set_option maxRecDepth 100000 in
theorem carry_run (z : ByteArray) (w : World) (hb : Nat) (ok : Nat → Prop) (k : Int) (n h : Nat) (L : List ByteArray) (d : ByteArray) (hR : Rg w hb ok k n L) (hI : Inv k n L) (hh : h ≤ 40) (hd : (d.size : Int) = k) (hs : n + 2 ^ h ≤ 2 ^ 40) (hmod : n % 2 ^ h = 0) (HZ0 : Aside0 (z = d)) :
    Calls Try.prog 24 #[.pointer (some ⟨hb, 0, none⟩), .int .i64 (h : Int), .string z] w (Carried w hb ok k n h L d) := by
  have HLT := Aside0.mk hR.lt
  obtain ⟨h0, v, h1, h2⟩ := hR
  obtain ⟨A, c, rfl, hcc, hC⟩ := Kd.R_reads h2
  have HBK := Aside0.mk h1
  have HRW := Aside0.mk h2
  have HCC := Aside0.mk hcc
  have HC := Aside0.mk hC
  have HD := Aside0.mk hd
  have HI := Aside0.mk hI
  have HH := Aside0.mk hh
  have HOK := Aside0.mk h0
  have HSZ := Aside0.mk (And.intro hs hmod)
  have HTL := Aside0.mk (Inv.t k n L hI h hh)
  have HDV := Aside0.mk (Nat.div_le_self n (2 ^ h))
  have HNL := Aside0.mk (show n ≤ 1099511627776 from hI.n1)
  clear h1 h2 hcc hC hI hd h0 hs hmod
  obtain ⟨i9, hi9, hx9⟩ := Option.map_eq_some_iff.1 info9
  have HI9 := Aside0.mk hi9
  clear hi9 hx9
  go_enter Try.func24, Try.ntmps24
  go_wp2
  refine wp_scope_jumps 0 (fun a' w' => ∃ (i : Nat) (x y : Int) (z : ByteArray) (vm u10 u11 u12 u13 u14 u15 u16 u17 u18 u19 u20 u21 u22 u23 u24 u25 u26 u27 u28 u29 u30 u31 u32 u33 u34 u35 u36 u37 u38 u39 u40 u41 u42 u43 u44 u45 u46 u47 u48 u49 u50 u51 u52 u53 u54 u55 u56 u57 u58 u59 u60 u61 u62 u63 u64 u65 u66 u67 u68 u69 u70 : Value), a' = { tmps := #[.pointer (some ⟨hb, 0, none⟩), .int .i64 (h : Int), .string z, undef, undef, undef, .slice none 0 0, vm, .int .u64 x, .int .i64 y, u10, u11, u12, u13, u14, u15, u16, u17, u18, u19, u20, u21, u22, u23, u24, u25, u26, u27, u28, u29, u30, u31, u32, u33, u34, u35, u36, u37, u38, u39, u40, u41, u42, u43, u44, u45, u46, u47, u48, u49, u50, u51, u52, u53, u54, u55, u56, u57, u58, u59, u60, u61, u62, u63, u64, u65, u66, u67, u68, u69, u70], defers := [] } ∧ Aside0 (i ≤ t1 (n / 2 ^ h)) ∧ Aside0 (x = ((n / 2 ^ h / 2 ^ i : Nat) : Int)) ∧ Aside0 (y = (L.length : Int) - 1 - (i : Int)) ∧ Aside0 (z = ups k L d i) ∧ Aside0 (Kd.string.R 9 w' w.heap.size (fun j => w.heap.size ≤ j) vm (mades k L d i)) ∧ Aside0 (Below w.heap.size w w')) (fun a' _ => (intOf (a'.tmps.getD 9 undef) + 1).toNat) rfl ?_ ?_
  · have c1 : w.cell? ⟨hb, 1, none⟩ = some (.int .u64 n) := by simp [World.cell?, HBK.out]
    have c2 : w.cell? ⟨hb, 2, none⟩ = some (.slice A L.length c) := by simp [World.cell?, HBK.out]
    go_wp2_with (first | ((with_reducible refine gate_dst (N := 11) rfl ?_); refine Kd.R_lit Kd.string w.heap.size 9 ?hg (N := 11) ?hd (xs := ([z] : List ByteArray)) (inner := [.string z]) (ok := fun j => w.heap.size ≤ j) (okp := fun _ => False) ?hr ?hp (fun _ hk => hk.elim) (Nat.le_refl _) (Below.refl _ _) (Nat.le_refl _) (by simp) ?_; (case hd => rfl); (case hg => rfl); (case hr => first | (go_simp; done) | (go_simp; rfl)); (case hp => exact (Reps.one (show Kd.M Kd.string _ _ _ z [.string z] from rfl) (Reps.none _ _))); intro vm w' ho hb1 hg_ hnew_; have HM := Aside0.mk ho; have HB := Aside0.mk hb1; have c1' := (hb1.cell (p := ⟨hb, 1, none⟩) HLT.out).trans c1; have c2' := (hb1.cell (p := ⟨hb, 2, none⟩) HLT.out).trans c2; clear hg_ hnew_ ho hb1 c1 c2))
    go_step3
    obtain ⟨i, hi0⟩ : ∃ i : Nat, i = 0 := ⟨0, rfl⟩
    obtain ⟨x, hx⟩ : ∃ x : Int, x = (n : Int) / 2 ^ h := ⟨_, rfl⟩
    obtain ⟨y, hy⟩ : ∃ y : Int, y = wrap64 ((L.length : Int) - 1) := ⟨_, rfl⟩
    rw [← hx, ← hy]
    have HT := Aside0.mk (show i ≤ t1 (n / 2 ^ h) from by omega)
    have HX := Aside0.mk (show x = ((n / 2 ^ h / 2 ^ i : Nat) : Int) from by rw [hx, hi0]; simp)
    have HY := Aside0.mk (show y = (L.length : Int) - 1 - (i : Int) from by rw [hy, hi0, MB.wrap64_in _ (by omega) (by have := HTL.out; omega)]; omega)
    have HZ := Aside0.mk (show z = ups k L d i from by rw [HZ0.out, hi0]; rfl)
    replace HM := Aside0.mk (show Kd.string.R 9 w' w.heap.size (fun j => w.heap.size ≤ j) vm (mades k L d i) from by rw [hi0]; rw [HZ0.out] at HM; exact HM.out)
    clear hi0 hx hy c1' c2'
    have c0 : w'.cell? ⟨hb, 0, none⟩ = some (.int .i64 k) := (HB.out.cell HLT.out).trans (by simp [World.cell?, HBK.out])
    have c2 : w'.cell? ⟨hb, 2, none⟩ = some (.slice A L.length c) := (HB.out.cell HLT.out).trans (by simp [World.cell?, HBK.out])
    have HDI := Aside0.mk (Nat.div_le_self (n / 2 ^ h) (2 ^ i))
    have x0 : 0 ≤ x := by rw [HX.out]; exact Int.natCast_nonneg _
    have x1 : x ≤ 1099511627776 := by rw [HX.out]; have := HNL.out; have := HDV.out; have := HDI.out; omega
    by_cases hi : i < t1 (n / 2 ^ h)
    · have tb : (Go.bits .and .u64 x 1 == 1) = true := by
        rw [and_one_u64 _ x0 (by omega), HX.out]
        have := t1_odd (n / 2 ^ h) i (by have := HNL.out; have := HDV.out; omega) hi
        rw [beq_iff_eq]; omega
      have y0 : 0 ≤ y := by rw [HY.out]; have := HTL.out; omega
      have y1 : y < (L.length : Int) := by rw [HY.out]; omega
      have y2 : wrap64 (y - 1) = y - 1 := MB.wrap64_in _ (by omega) (by have := HTL.out; omega)
      have HY2 := Aside0.mk y2
      clear y2
      obtain ⟨ad, e1, cx⟩ := Kd.at_string (Kd.C_below HC.out HB.out) y y0 y1
      cases e1
      obtain ⟨s, hs⟩ : ∃ s, s = rdOf ByteArray.empty L y := ⟨_, rfl⟩
      rw [← hs] at cx
      have HS := Aside0.mk hs
      have HSA := Aside0.mk (show (s.size : Int) ≤ 32 from by
        have hm : s ∈ L := by
          rw [hs]; unfold rdOf
          rw [List.getD_eq_getElem?_getD, List.getElem?_eq_getElem (by omega)]; exact List.getElem_mem _
        have := HI.out.sz s hm; have := HI.out.k2; omega)
      obtain ⟨z1, hz1⟩ : ∃ z1, z1 = ups k L d (i + 1) := ⟨_, rfl⟩
      have HZ1 := Aside0.mk hz1
      have HN := Aside0.mk (fun W => show Calls Try.prog 17 #[.int .i64 k, .string s, .string z] W fun e w' => e = .returned (.string z1) ∧ Below W.heap.size W w' from by
        have e : z1 = MH.nd k s z := by
          rw [hz1, ups, hs, HZ.out]; unfold rdOf; rw [show y.toNat = L.length - 1 - i from by rw [HY.out]; omega]
        rw [e]; exact node_calls k HI.out.k2 s z W HSA.out (by rw [HZ.out, ups_size k ⟨HI.out.k1, HI.out.k2⟩ L d HD.out i]; exact HI.out.k2))
      have HDL := Aside0.mk hi
      clear hs hi hz1
      go_wp2_with (fail)
      go_region_held3 (fun w' => w'.cell? ⟨hb, 0, none⟩ = some (.int .i64 k) ∧ w'.cell? ⟨hb, 2, none⟩ = some (.slice (some ad) L.length c) ∧ w'.cell? (ad.add y.toNat) = some (.string s)) (first | exact ⟨c0, c2, cx⟩ | exact ⟨e0, e2, ex⟩ | go_keep)
        (first | (go_at_call 17; refine (HN.out _).mono ?_; rintro e w2 ⟨rfl, hb2⟩; have e0 : w2.cell? ⟨hb, 0, none⟩ = some (.int .i64 k) := (hb2.cell (World.block_lt_of_cell? _ _ c0)).trans c0; have e2 : w2.cell? ⟨hb, 2, none⟩ = some (.slice (some ad) L.length c) := (hb2.cell (World.block_lt_of_cell? _ _ c2)).trans c2; have ex : w2.cell? (ad.add y.toNat) = some (.string s) := (hb2.cell (World.block_lt_of_cell? _ _ cx)).trans cx; have HB2 := Aside0.mk hb2; clear hb2))
      have HB3 := Aside0.mk (below_weaken (below_drew HB.out) HB.out.size HB2.out)
      have HM3 := Aside0.mk (Kd.R_below (Kd.R_drew HM.out) HB2.out)
      go_wp2_with (first | ((with_reducible refine gate_builtin (b := .append) (xs := #[.tmp 40, .tmp 42]) rfl ?_); at_builtin; refine Kd.R_append Kd.string (w0 := w) w.heap.size rfl (.tmp 40) (.tmp 42) 25 9 (.string ⟨#[]⟩) 16 rfl Try.underlying25 info9 rfl (by decide) (by omega) vm (mades k L d i) z1 [.string z1] (fun j => w.heap.size ≤ j) (fun _ => False) rfl rfl ?aP (fun _ hk => hk.elim) ?aF ?aO ?aB ?aS ?aL ?_; (case aP => exact rfl); (case aF => exact (fun j hj => Nat.le_trans HB3.out.size hj)); (case aO => exact HM3.out); (case aB => exact HB3.out); (case aS => exact HB3.out.size); (case aL => rw [mades_len]; have := HDL.out; have := HTL.out; omega); intro vm1 w3 ho hb3 hg hat; rw [HZ1.out, ← mades_succ] at ho; have HM4 := Aside0.mk ho; have HB4 := Aside0.mk hb3; clear ho hb3 hg hat))
      go_step3
      exact ⟨rfl, ⟨i + 1, x / 2, wrap64 (y - 1), z1, vm1, _, _, _, _, _, _, _, _, _, _, _, _, _, _, _, _, _, _, _, _, _, _, _, _, _, _, _, _, _, _, _, _, _, _, _, _, _, _, _, _, _, _, _, _, _, _, _, _, _, _, _, _, _, _, _, _, _, _, _, _, _, rfl, ⟨HDL.out⟩, ⟨by rw [HX.out, Nat.pow_succ, ← Nat.div_div_eq_div_mul]; omega⟩, ⟨by rw [HY2.out, HY.out]; omega⟩, HZ1, HM4, HB4⟩⟩
    · have tb : (Go.bits .and .u64 x 1 == 1) = false := by
        have e : i = t1 (n / 2 ^ h) := by have := HT.out; omega
        rw [and_one_u64 _ x0 (by omega), HX.out, e]
        have := t1_even (n / 2 ^ h) (by have := HNL.out; have := HDV.out; omega)
        rw [beq_eq_false_iff_ne]; omega
      have HIT := Aside0.mk (show i = t1 (n / 2 ^ h) from by have := HT.out; omega)
      have y0 : 0 ≤ y + 1 := by rw [HY.out]; have := HTL.out; have := HT.out; omega
      have y1 : y + 1 ≤ (L.length : Int) := by rw [HY.out]; omega
      have y2 : wrap64 (y + 1) = y + 1 := MB.wrap64_in _ (by omega) (by have := HTL.out; omega)
      have hsl := cut_to (P := Try.prog) 25 9 .i64 Try.underlying25 (i := i9) HI9.out A L.length c (y + 1) y0 y1 HCC.out
      obtain ⟨m, hm⟩ : ∃ m : Nat, m = L.length - i := ⟨_, rfl⟩
      have ey : (y + 1).toNat = m := by rw [hm]; have := HY.out; omega
      have hml : m ≤ L.length := by omega
      rw [ey] at hsl
      have HEM := Aside0.mk hm
      have HRT := Aside0.mk (show Kd.string.R 9 w' 0 (fun j => (ok j ∧ j ≠ hb) ∨ w'.heap.size ≤ j) (.slice A m c) (L.take m) from Kd.R_mono (Kd.R_take (Kd.R_step HRW.out (fun j _ hj => HB.out.block j hj)) hml) (fun j h => .inl h))
      have HRL := Aside0.mk (fun (j : Nat) (hj : (Value.slice A m c).ownBlock = some j) => show ok j ∧ j ≠ hb ∧ j < w.heap.size from by
        have e : (Value.slice A L.length c).ownBlock = some j := by rw [← hj]; cases A <;> rfl
        have h1 := (Kd.R_bound HRW.out).1 j e
        exact ⟨h1.1.1, h1.1.2, h1.2.2.1⟩)
      have HML := Aside0.mk hml
      clear hi ey hml hm
      go_wp2_with (first | ((with_reducible refine gate_builtin (b := .append) (xs := #[.tmp 55, .tmp 57]) rfl ?_); at_builtin; refine Kd.R_append Kd.string (w0 := w') 0 rfl (.tmp 55) (.tmp 57) 25 9 (.string ⟨#[]⟩) 16 rfl Try.underlying25 info9 rfl (by decide) (by omega) (.slice A m c) (L.take m) z [.string z] (fun j => (ok j ∧ j ≠ hb) ∨ w'.heap.size ≤ j) (fun _ => False) rfl rfl ?aP (fun _ hk => hk.elim) ?aF ?aO ?aB ?aS ?aL ?_; (case aP => exact rfl); (case aF => exact (fun j hj => .inr hj)); (case aO => exact HRT.out); (case aB => exact Below.refl _ _); (case aS => exact Nat.zero_le _); (case aL => rw [List.length_take]; have := HTL.out; omega); intro v1 w1 ho hb3 hg hat; obtain ⟨A1, N1, c1, e1⟩ : ∃ A1 N1 c1, v1 = .slice A1 N1 c1 := (Kd.R_slice ho).elim (fun A1 h => h.elim (fun c1 h => ⟨A1, _, c1, h⟩)); subst e1; have HO1 := Aside0.mk ho; have HG1 := Aside0.mk hg; have HAT := Aside0.mk hat; have HBK1 := Aside0.mk (show w1.heap[hb]? = some (.cells #[.int .i64 k, .int .u64 n, .slice A L.length c] 58 (0, 0)) from (hg.block hb (Nat.lt_of_lt_of_le HLT.out HB.out.size) (fun e => (HRL.out hb e.symm).2.1 rfl)).trans ((HB.out.block hb HLT.out).trans HBK.out)); have d2 : w1.cell? ⟨hb, 2, none⟩ = some (.slice A L.length c) := (by simp [World.cell?, HBK1.out]); have g2 : w1.frozen? ⟨hb, 2, none⟩ = false := (by simp [World.frozen?, HBK1.out]); clear ho hb3 hg hat))
      obtain ⟨w2, hw2⟩ : ∃ w2, w2 = w1.setCell ⟨hb, 2, none⟩ (.slice A1 N1 c1) := ⟨_, rfl⟩
      rw [← hw2]
      have HW2 := Aside0.mk hw2
      have HBK2 := Aside0.mk (show w2.heap[hb]? = some (.cells #[.int .i64 k, .int .u64 n, .slice A1 N1 c1] 58 (0, 0)) from by rw [hw2]; exact blk_put HBK1.out _ _ rfl)
      have q1 : w2.cell? ⟨hb, 1, none⟩ = some (.int .u64 n) := by simp [World.cell?, HBK2.out]
      have f1 : w2.frozen? ⟨hb, 1, none⟩ = false := by simp [World.frozen?, HBK2.out]
      clear hw2 d2 g2
      go_region
      go_wp2_with (fail)
      simp only [Exit.jump]
      go_ret
      rw [HW2.out]
      exact carried_end w w' w1 hb ok k n h L d z vm A A1 c N1 c1 i m HLT.out HOK.out HSZ.out.1 HIT.out HZ.out HEM.out HM.out HB.out HRL.out HO1.out HG1.out HAT.out (by rw [← HW2.out]; exact HBK2.out)

  · rintro a' w' ⟨i, x, y, z, vm, u10, u11, u12, u13, u14, u15, u16, u17, u18, u19, u20, u21, u22, u23, u24, u25, u26, u27, u28, u29, u30, u31, u32, u33, u34, u35, u36, u37, u38, u39, u40, u41, u42, u43, u44, u45, u46, u47, u48, u49, u50, u51, u52, u53, u54, u55, u56, u57, u58, u59, u60, u61, u62, u63, u64, u65, u66, u67, u68, u69, u70, rfl, HT, HX, HY, HZ, HM, HB⟩
    have c0 : w'.cell? ⟨hb, 0, none⟩ = some (.int .i64 k) := (HB.out.cell HLT.out).trans (by simp [World.cell?, HBK.out])
    have c2 : w'.cell? ⟨hb, 2, none⟩ = some (.slice A L.length c) := (HB.out.cell HLT.out).trans (by simp [World.cell?, HBK.out])
    have HDI := Aside0.mk (Nat.div_le_self (n / 2 ^ h) (2 ^ i))
    have x0 : 0 ≤ x := by rw [HX.out]; exact Int.natCast_nonneg _
    have x1 : x ≤ 1099511627776 := by rw [HX.out]; have := HNL.out; have := HDV.out; have := HDI.out; omega
    by_cases hi : i < t1 (n / 2 ^ h)
    · have tb : (Go.bits .and .u64 x 1 == 1) = true := by
        rw [and_one_u64 _ x0 (by omega), HX.out]
        have := t1_odd (n / 2 ^ h) i (by have := HNL.out; have := HDV.out; omega) hi
        rw [beq_iff_eq]; omega
      have y0 : 0 ≤ y := by rw [HY.out]; have := HTL.out; omega
      have y1 : y < (L.length : Int) := by rw [HY.out]; omega
      have y2 : wrap64 (y - 1) = y - 1 := MB.wrap64_in _ (by omega) (by have := HTL.out; omega)
      have HY2 := Aside0.mk y2
      clear y2
      obtain ⟨ad, e1, cx⟩ := Kd.at_string (Kd.C_below HC.out HB.out) y y0 y1
      cases e1
      obtain ⟨s, hs⟩ : ∃ s, s = rdOf ByteArray.empty L y := ⟨_, rfl⟩
      rw [← hs] at cx
      have HS := Aside0.mk hs
      have HSA := Aside0.mk (show (s.size : Int) ≤ 32 from by
        have hm : s ∈ L := by
          rw [hs]; unfold rdOf
          rw [List.getD_eq_getElem?_getD, List.getElem?_eq_getElem (by omega)]; exact List.getElem_mem _
        have := HI.out.sz s hm; have := HI.out.k2; omega)
      obtain ⟨z1, hz1⟩ : ∃ z1, z1 = ups k L d (i + 1) := ⟨_, rfl⟩
      have HZ1 := Aside0.mk hz1
      have HN := Aside0.mk (fun W => show Calls Try.prog 17 #[.int .i64 k, .string s, .string z] W fun e w' => e = .returned (.string z1) ∧ Below W.heap.size W w' from by
        have e : z1 = MH.nd k s z := by
          rw [hz1, ups, hs, HZ.out]; unfold rdOf; rw [show y.toNat = L.length - 1 - i from by rw [HY.out]; omega]
        rw [e]; exact node_calls k HI.out.k2 s z W HSA.out (by rw [HZ.out, ups_size k ⟨HI.out.k1, HI.out.k2⟩ L d HD.out i]; exact HI.out.k2))
      have HDL := Aside0.mk hi
      clear hs hi hz1
      go_wp2_with (fail)
      go_region_held3 (fun w' => w'.cell? ⟨hb, 0, none⟩ = some (.int .i64 k) ∧ w'.cell? ⟨hb, 2, none⟩ = some (.slice (some ad) L.length c) ∧ w'.cell? (ad.add y.toNat) = some (.string s)) (first | exact ⟨c0, c2, cx⟩ | exact ⟨e0, e2, ex⟩ | go_keep)
        (first | (go_at_call 17; refine (HN.out _).mono ?_; rintro e w2 ⟨rfl, hb2⟩; have e0 : w2.cell? ⟨hb, 0, none⟩ = some (.int .i64 k) := (hb2.cell (World.block_lt_of_cell? _ _ c0)).trans c0; have e2 : w2.cell? ⟨hb, 2, none⟩ = some (.slice (some ad) L.length c) := (hb2.cell (World.block_lt_of_cell? _ _ c2)).trans c2; have ex : w2.cell? (ad.add y.toNat) = some (.string s) := (hb2.cell (World.block_lt_of_cell? _ _ cx)).trans cx; have HB2 := Aside0.mk hb2; clear hb2))
      have HB3 := Aside0.mk (below_weaken (below_drew HB.out) HB.out.size HB2.out)
      have HM3 := Aside0.mk (Kd.R_below (Kd.R_drew HM.out) HB2.out)
      go_wp2_with (first | ((with_reducible refine gate_builtin (b := .append) (xs := #[.tmp 40, .tmp 42]) rfl ?_); at_builtin; refine Kd.R_append Kd.string (w0 := w) w.heap.size rfl (.tmp 40) (.tmp 42) 25 9 (.string ⟨#[]⟩) 16 rfl Try.underlying25 info9 rfl (by decide) (by omega) vm (mades k L d i) z1 [.string z1] (fun j => w.heap.size ≤ j) (fun _ => False) rfl rfl ?aP (fun _ hk => hk.elim) ?aF ?aO ?aB ?aS ?aL ?_; (case aP => exact rfl); (case aF => exact (fun j hj => Nat.le_trans HB3.out.size hj)); (case aO => exact HM3.out); (case aB => exact HB3.out); (case aS => exact HB3.out.size); (case aL => rw [mades_len]; have := HDL.out; have := HTL.out; omega); intro vm1 w3 ho hb3 hg hat; rw [HZ1.out, ← mades_succ] at ho; have HM4 := Aside0.mk ho; have HB4 := Aside0.mk hb3; clear ho hb3 hg hat))
      go_step3
      refine ⟨rfl, ⟨i + 1, x / 2, wrap64 (y - 1), z1, vm1, _, _, _, _, _, _, _, _, _, _, _, _, _, _, _, _, _, _, _, _, _, _, _, _, _, _, _, _, _, _, _, _, _, _, _, _, _, _, _, _, _, _, _, _, _, _, _, _, _, _, _, _, _, _, _, _, _, _, _, _, _, rfl, ⟨HDL.out⟩, ⟨by rw [HX.out, Nat.pow_succ, ← Nat.div_div_eq_div_mul]; omega⟩, ⟨by rw [HY2.out, HY.out]; omega⟩, HZ1, HM4, HB4⟩, ?_⟩
      simp only [intOf, Array.getD_eq_getD_getElem?]
      have := HY2.out; have := HY.out; have := HTL.out; simp [intOf]; omega
    · have tb : (Go.bits .and .u64 x 1 == 1) = false := by
        have e : i = t1 (n / 2 ^ h) := by have := HT.out; omega
        rw [and_one_u64 _ x0 (by omega), HX.out, e]
        have := t1_even (n / 2 ^ h) (by have := HNL.out; have := HDV.out; omega)
        rw [beq_eq_false_iff_ne]; omega
      have HIT := Aside0.mk (show i = t1 (n / 2 ^ h) from by have := HT.out; omega)
      have y0 : 0 ≤ y + 1 := by rw [HY.out]; have := HTL.out; have := HT.out; omega
      have y1 : y + 1 ≤ (L.length : Int) := by rw [HY.out]; omega
      have y2 : wrap64 (y + 1) = y + 1 := MB.wrap64_in _ (by omega) (by have := HTL.out; omega)
      have hsl := cut_to (P := Try.prog) 25 9 .i64 Try.underlying25 (i := i9) HI9.out A L.length c (y + 1) y0 y1 HCC.out
      obtain ⟨m, hm⟩ : ∃ m : Nat, m = L.length - i := ⟨_, rfl⟩
      have ey : (y + 1).toNat = m := by rw [hm]; have := HY.out; omega
      have hml : m ≤ L.length := by omega
      rw [ey] at hsl
      have HEM := Aside0.mk hm
      have HRT := Aside0.mk (show Kd.string.R 9 w' 0 (fun j => (ok j ∧ j ≠ hb) ∨ w'.heap.size ≤ j) (.slice A m c) (L.take m) from Kd.R_mono (Kd.R_take (Kd.R_step HRW.out (fun j _ hj => HB.out.block j hj)) hml) (fun j h => .inl h))
      have HRL := Aside0.mk (fun (j : Nat) (hj : (Value.slice A m c).ownBlock = some j) => show ok j ∧ j ≠ hb ∧ j < w.heap.size from by
        have e : (Value.slice A L.length c).ownBlock = some j := by rw [← hj]; cases A <;> rfl
        have h1 := (Kd.R_bound HRW.out).1 j e
        exact ⟨h1.1.1, h1.1.2, h1.2.2.1⟩)
      have HML := Aside0.mk hml
      clear hi ey hml hm
      go_wp2_with (first | ((with_reducible refine gate_builtin (b := .append) (xs := #[.tmp 55, .tmp 57]) rfl ?_); at_builtin; refine Kd.R_append Kd.string (w0 := w') 0 rfl (.tmp 55) (.tmp 57) 25 9 (.string ⟨#[]⟩) 16 rfl Try.underlying25 info9 rfl (by decide) (by omega) (.slice A m c) (L.take m) z [.string z] (fun j => (ok j ∧ j ≠ hb) ∨ w'.heap.size ≤ j) (fun _ => False) rfl rfl ?aP (fun _ hk => hk.elim) ?aF ?aO ?aB ?aS ?aL ?_; (case aP => exact rfl); (case aF => exact (fun j hj => .inr hj)); (case aO => exact HRT.out); (case aB => exact Below.refl _ _); (case aS => exact Nat.zero_le _); (case aL => rw [List.length_take]; have := HTL.out; omega); intro v1 w1 ho hb3 hg hat; obtain ⟨A1, N1, c1, e1⟩ : ∃ A1 N1 c1, v1 = .slice A1 N1 c1 := (Kd.R_slice ho).elim (fun A1 h => h.elim (fun c1 h => ⟨A1, _, c1, h⟩)); subst e1; have HO1 := Aside0.mk ho; have HG1 := Aside0.mk hg; have HAT := Aside0.mk hat; have HBK1 := Aside0.mk (show w1.heap[hb]? = some (.cells #[.int .i64 k, .int .u64 n, .slice A L.length c] 58 (0, 0)) from (hg.block hb (Nat.lt_of_lt_of_le HLT.out HB.out.size) (fun e => (HRL.out hb e.symm).2.1 rfl)).trans ((HB.out.block hb HLT.out).trans HBK.out)); have d2 : w1.cell? ⟨hb, 2, none⟩ = some (.slice A L.length c) := (by simp [World.cell?, HBK1.out]); have g2 : w1.frozen? ⟨hb, 2, none⟩ = false := (by simp [World.frozen?, HBK1.out]); clear ho hb3 hg hat))
      obtain ⟨w2, hw2⟩ : ∃ w2, w2 = w1.setCell ⟨hb, 2, none⟩ (.slice A1 N1 c1) := ⟨_, rfl⟩
      rw [← hw2]
      have HW2 := Aside0.mk hw2
      have HBK2 := Aside0.mk (show w2.heap[hb]? = some (.cells #[.int .i64 k, .int .u64 n, .slice A1 N1 c1] 58 (0, 0)) from by rw [hw2]; exact blk_put HBK1.out _ _ rfl)
      have q1 : w2.cell? ⟨hb, 1, none⟩ = some (.int .u64 n) := by simp [World.cell?, HBK2.out]
      have f1 : w2.frozen? ⟨hb, 1, none⟩ = false := by simp [World.frozen?, HBK2.out]
      clear hw2 d2 g2
      go_region
      go_wp2_with (fail)
      simp only [Exit.jump]
      go_ret
      rw [HW2.out]
      exact carried_end w w' w1 hb ok k n h L d z vm A A1 c N1 c1 i m HLT.out HOK.out HSZ.out.1 HIT.out HZ.out HEM.out HM.out HB.out HRL.out HO1.out HG1.out HAT.out (by rw [← HW2.out]; exact HBK2.out)

theorem carry_calls (w : World) (hb : Nat) (ok : Nat → Prop) (k : Int) (n h : Nat) (L : List ByteArray) (d : ByteArray) (hR : Rg w hb ok k n L) (hI : Inv k n L) (hh : h ≤ 40) (hd : (d.size : Int) = k) (hs : n + 2 ^ h ≤ 2 ^ 40) (hmod : n % 2 ^ h = 0) :
    Calls Try.prog 24 #[.pointer (some ⟨hb, 0, none⟩), .int .i64 (h : Int), .string d] w (Carried w hb ok k n h L d) :=
  carry_run d w hb ok k n h L d hR hI hh hd hs hmod ⟨rfl⟩
end Go.Proofs.Ytdclafjgfnbibaa.Pk
