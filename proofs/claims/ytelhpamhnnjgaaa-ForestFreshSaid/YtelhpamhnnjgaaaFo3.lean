/- Package forest: Digests, Node, Root. No condition beyond those that each theorem names. -/
import Derived.Test.YtelhpamhnnjgaaaFo2
set_option linter.unusedVariables false
set_option linter.unusedSimpArgs false
namespace Go.Proofs.Ytelhpamhnnjgaaa.Fo
open Go.RowKit Go.Proofs.Ytelhpamhnnjgaaa.MB Go.Proofs.Ytelhpamhnnjgaaa.Pk Go.Proofs.YtelhpamhnnjgaaaW.PrintWords Go.Proofs.YtelhpamhnnjgaaaW.PrintLast Go.Proofs.YtelhpamhnnjgaaaW.PrintMore Go.Proofs.Ytelhpamhnnjgaaa.PForestFresh Go.Proofs.Ytelhpamhnnjgaaa.Ob
def blks (l : List (Nat × Nat)) : List S45 := l.map fun b => ⟨(b.1 : Int), (b.2 : Int)⟩
theorem blks_append (a b : List (Nat × Nat)) : blks (a ++ b) = blks a ++ blks b := List.map_append ..
theorem blks_length (a : List (Nat × Nat)) : (blks a).length = a.length := List.length_map ..

theorem mtS_may (n : Nat) (hn : n ≤ 2 ^ 40) : ∀ d, d ≤ 41 → ∀ b ∈ mtS n d, May b.1 b.2
  | 0, _, b, hb => by simp [mtS] at hb
  | d + 1, hd, b, hb => by
    rw [mtS, List.mem_append] at hb
    rcases hb with h | h
    · by_cases e : bit n d = 1
      · rw [if_pos e, List.mem_singleton] at h
        subst h
        exact may_of_bit n d hn (by omega) e
      · rw [if_neg e] at h; cases h
    · exact mtS_may n hn d (by omega) b h
theorem mountains_run (n : Nat) (hn : n ≤ 2 ^ 40) : ∀ (d k : Nat) (acc : List S45), d ≤ 41 → d + 66 ≤ k → acc.length + d ≤ 50 → cover_Mountains.l0 k acc ((n % 2 ^ d : Nat) : Int) ((n / 2 ^ d * 2 ^ d : Nat) : Int) = some (acc ++ blks (mtS n d), 0) := by
  intro d
  induction d with
  | zero =>
    intro k acc _ hk _
    obtain ⟨k, rfl⟩ : ∃ m, k = m + 1 := ⟨k - 1, by omega⟩
    simp only [cover_Mountains.l0]
    rw [Nat.pow_zero, Nat.mod_one, if_neg (by omega)]
    simp [blks, mtS]
  | succ d ih =>
    intro k acc hd hk hl
    have hb := bit_lt n d
    have hms := mod_succ n d
    have hu := half_up n d
    have hp := two_pow_pos d
    have ep : 2 ^ (d + 1) = 2 * 2 ^ d := by rw [Nat.pow_succ, Nat.mul_comm]
    have hpd : 2 ^ d ≤ 2 ^ 40 := Nat.pow_le_pow_right (by omega) (by omega)
    have hlt := Nat.mod_lt n hp
    have hmul : n / 2 ^ (d + 1) * 2 ^ (d + 1) = 2 * (n / 2 ^ (d + 1)) * 2 ^ d := by rw [ep, ← Nat.mul_assoc, Nat.mul_comm _ 2]
    by_cases e : bit n d = 1
    · obtain ⟨k, rfl⟩ : ∃ m, k = m + 1 := ⟨k - 1, by omega⟩
      rw [e] at hu
      rw [e, Nat.mul_one] at hms
      have hle := Nat.div_mul_le_self n (2 ^ d)
      have hle1 := Nat.div_mul_le_self n (2 ^ (d + 1))
      have hlg : lg (n % 2 ^ (d + 1)) = (d : Int) := by
        rw [hms]; generalize n % 2 ^ d = q at *
        exact lg_eq (by omega) (by rw [Nat.pow_succ]; omega)
      have hq : n / 2 ^ (d + 1) * 2 ^ (d + 1) / 2 ^ d = n / 2 ^ d - 1 := by
        rw [hmul, Nat.mul_div_cancel _ hp]; omega
      have hs : n / 2 ^ (d + 1) * 2 ^ (d + 1) + 2 ^ d = n / 2 ^ d * 2 ^ d := by
        rw [hmul, hu, Nat.add_mul, Nat.one_mul]
      have hs1 := shlc 1 d (by omega) (by omega)
      rw [Nat.one_mul] at hs1
      have hmlt : n % 2 ^ (d + 1) < 2 ^ 64 := by rw [hms]; omega
      have e1 : IntKind.u64.wrap (((n % 2 ^ (d + 1) : Nat) : Int) - ((2 ^ d : Nat) : Int)) = ((n % 2 ^ d : Nat) : Int) := by
        rw [hms]
        generalize n % 2 ^ d = r at *
        generalize 2 ^ d = p at *
        rw [wrap_u64_in _ (by omega) (by omega)]; omega
      have e2 : IntKind.u64.wrap (((n / 2 ^ (d + 1) * 2 ^ (d + 1) : Nat) : Int) + ((2 ^ d : Nat) : Int)) = ((n / 2 ^ d * 2 ^ d : Nat) : Int) := by
        rw [← Int.natCast_add, hs, wrap_u64_cast _ (by omega)]
      have hpos : ((n % 2 ^ (d + 1) : Nat) : Int) > 0 := by
        rw [hms]; generalize n % 2 ^ d = r at *; omega
      simp only [cover_Mountains.l0]
      rw [if_pos hpos, num_Log.is _ k hmlt (by omega), hlg]
      simp only [Option.bind_some]
      rw [if_pos (by omega), if_pos (by omega), show shl .u64 1 (d : Int) = ((2 ^ d : Nat) : Int) from hs1, shrc _ d (by omega), hq, e1, e2, ih k _ (by omega) (by omega) (by rw [List.length_append]; simp; omega), mtS, if_pos e, List.append_assoc]
      rfl
    · have e0 : bit n d = 0 := by omega
      rw [e0, Nat.mul_zero, Nat.add_zero] at hms
      rw [e0, Nat.add_zero] at hu
      have hs : n / 2 ^ (d + 1) * 2 ^ (d + 1) = n / 2 ^ d * 2 ^ d := by rw [hmul, hu]
      rw [hms, hs, mtS, if_neg e]
      exact ih k acc (by omega) (by omega) (by omega)
theorem cover_Mountains.is (n k : Nat) (hn : n ≤ 2 ^ 40) (hk : 120 ≤ k) : cover_Mountains.f k n = some (blks (mtS n 41), 0) := by
  unfold cover_Mountains.f
  rw [if_neg (by omega)]
  have h := mountains_run n hn 41 k [] (by omega) (by omega) (by simp)
  rw [Nat.div_eq_of_lt (show n < 2 ^ 41 from by omega), Nat.zero_mul, Nat.mod_eq_of_lt (show n < 2 ^ 41 from by omega)] at h
  exact h
theorem cover_Mountains.no (n k : Nat) (hn : 2 ^ 40 < n) : cover_Mountains.f k n = some ([], 30) := by
  unfold cover_Mountains.f; rw [if_pos (by omega)]

theorem wpList_load_at {P : Program} {ops : Array Oper} {rest : List Oper} {o : Oper} {a : Act} {w : World} {Q : Exit → Act → World → Prop} (hgd : o.guard = none) (ty : TypeId) (x : Operand) (ho : o.op = .load ty x)
    (p : Addr) (hx : a.eval x = .pointer (some p)) (cs : Array Value) (d : TypeDesc) (hc : ∀ j v, cs[j]? = some v → w.cell? (p.add j) = some v)
    (hu : P.underlying ty = some d) (hd : (match d with | .struct _ | .array _ _ => true | _ => false) = true) (hi : (P.info? ty).map (·.size) = some cs.size)
    (h : wpList P ops Q rest (a.put o.dst (.agg cs)) w) : wpList P ops Q (o :: rest) a w := by
  have hrun : (loadVar ty p).run P w = .ok (.agg cs) w := by
    have hl := run_loadCells_list (P := P) w p cs.toList (fun j v hj => hc j v (by simpa using hj))
    simp only [Array.length_toList, Array.toArray_toList] at hl
    cases hq : P.info? ty with
    | none => simp [hq] at hi
    | some i =>
      have hs : i.size = cs.size := by simpa [hq] using hi
      have hagg : (isAgg ty).run P w = .ok true w := by
        unfold isAgg
        rw [Sem.run_bind, run_underlying hu w]
        cases d <;> simp_all
      simp [loadVar, Sem.run_bind, hagg, sizeOf, typeInfo, hq, hs, hl]
  refine wpList_plain hgd fun K hK => ?_
  unfold Oper.wp execOp
  simp only [ho, hx, Instr.loadAt, Instr.sureAddr, Sem.run_bind, Sem.run_pure, Result.andThen_ok, hrun]
  exact hK _ _ h
set_option maxHeartbeats 4000000 in
set_option maxRecDepth 100000 in
theorem digests_calls (w : World) (hb : Nat) (ok : Nat → Prop) (k : Int) (n : Nat) (F : Int → Int → Option ByteArray) (h : Fr w hb ok k n F) (A : Option Addr) (c : Nat) (bs : List (Nat × Nat)) (D : Nat × Nat → ByteArray) (hC : Kd.C k45 w A bs.length (blks bs)) (hl : bs.length ≤ 100) (hF : ∀ b ∈ bs, F (b.1 : Int) (b.2 : Int) = some (D b) ∧ b.1 ≤ 64 ∧ b.2 ≤ 2 ^ 40) :
    Calls Try.prog 21 #[.pointer (some ⟨hb, 0, none⟩), .slice A bs.length c] w fun e w' => ∃ v, e = .returned (.tuple #[v, .bool true]) ∧ Kd.string.R 9 w' w.heap.size (fun j => w.heap.size ≤ j) v (bs.map D) ∧ Below w.heap.size w w' := by
  have HLT := Aside0.mk h.lt
  have HFR := Aside0.mk h
  obtain ⟨h0, bm, _, _, h1, h2⟩ := h
  have hc : w.cell? ⟨hb, 2, none⟩ = some (.map (some bm)) := by simp [World.cell?, h1]
  have H2 := Aside0.mk h2
  have HC := Aside0.mk hC
  have HL := Aside0.mk hl
  have HF := Aside0.mk hF
  clear h1 h2 hC hl hF
  go_enter Try.func21, Try.ntmps21
  go_wp2_with (fail)
  go_loopg [6, 13] bs.length (fun kq v6 v13 w' => ∃ i : Nat, v13 = .int .i64 (i : Int) ∧ Aside0 (i + kq = bs.length) ∧ Aside0 (Kd.string.R 9 w' w.heap.size (fun j => w.heap.size ≤ j) v6 ((bs.take i).map D)) ∧ Aside0 (Below w.heap.size w w'))
  case atStart => exact ⟨0, by rfl, ⟨by omega⟩, ⟨Kd.R_nil _ _ _ _ _⟩, ⟨Below.refl _ _⟩⟩
  case round =>
    obtain ⟨i, rfl, HI, HO, HB⟩ := hrel
    cases gk with
    | zero =>
      have hlt : decide ((i : Int) < (bs.length : Int)) = false := decide_eq_false (by have := HI.out; omega)
      have hlt' : decide (i < bs.length) = false := decide_eq_false (by have := HI.out; omega)
      go_wp2_with (fail)
      go_ret2
      have e : bs.take i = bs := List.take_of_length_le (by have := HI.out; omega)
      have := HO.out
      rw [e] at this
      exact ⟨_, rfl, this, HB.out⟩
    | succ k1 =>
      have hil : i < bs.length := by have := HI.out; omega
      have hlt : decide ((i : Int) < (bs.length : Int)) = true := decide_eq_true (by omega)
      have hlt' : decide (i < bs.length) = true := decide_eq_true hil
      have h100 : (i : Int) < 100 := by have := HL.out; omega
      obtain ⟨ad, e1, y1, y2⟩ := at_T45 (Kd.C_below HC.out HB.out) (i : Int) (by omega) (by omega)
      cases e1
      obtain ⟨x, y, hxy⟩ : ∃ x y, bs[i] = (x, y) := ⟨_, _, rfl⟩
      have hrd : rd_T45 (blks bs) (i : Int) = ⟨(x : Int), (y : Int)⟩ := by
        unfold rd_T45 blks; rw [Int.toNat_natCast, List.getD_eq_getElem?_getD, List.getElem?_map, List.getElem?_eq_getElem hil, hxy]; rfl
      rw [hrd, Int.toNat_natCast] at y1 y2
      obtain ⟨hf, hx64, hy40⟩ := HF.out (x, y) (by rw [← hxy]; exact List.getElem_mem _)
      obtain ⟨d, hd⟩ : ∃ d, d = D (x, y) := ⟨_, rfl⟩
      rw [← hd] at hf
      have hB1 := below_alloc (Below.refl _ wr) (.cells #[.int .i64 (x : Int), .int .u64 (y : Int)] 45)
      have hlw := (HFR.out.below HB.out).lt
      have hc0 := (hB1.cell (p := ⟨hb, 2, none⟩) hlw).trans ((HB.out.cell (p := ⟨hb, 2, none⟩) HLT.out).trans hc)
      have hl0 := (H2.out.step (w1 := (wr.alloc (.cells #[.int .i64 (x : Int), .int .u64 (y : Int)] 45)).drew) ((hB1.block bm (Nat.lt_of_lt_of_le H2.out.lt HB.out.size)).trans (HB.out.block bm H2.out.lt))).look ty (a := (x : Int)) (i := (y : Int)) (WalkArith.wf_i64 (by omega)) (WalkArith.wf_u64 (by omega)) true
      rw [hf] at hl0
      simp only [if_true, Option.getD_some, Option.isSome_some] at hl0
      have HB1 := Aside0.mk (below_drew (below_alloc HB.out (.cells #[.int .i64 (x : Int), .int .u64 (y : Int)] 45)))
      have HO1 := Aside0.mk (Kd.R_drew (Kd.R_below HO.out hB1))
      have HIL := Aside0.mk hil
      have HD := Aside0.mk (show D (bs[i]'HIL.out) = d from by rw [hxy, hd])
      clear hB1 hlw hf hxy hrd hd hx64 hy40
      go_wp2_with (fail)
      go_region
      clear hl0 hc0 y1 y2 hlt hlt'
      generalize hw5 : (wr.alloc (Obj.cells #[Value.int IntKind.i64 (x : Int), Value.int IntKind.u64 (y : Int)] 45)).drew = w5 at HB1 HO1 ⊢
      clear hw5
      have u3 : wrap64 ((i : Int) + 1) = (i : Int) + 1 := MB.wrap64_in _ (by omega) (by omega)
      go_wp2_with (first | ((with_reducible refine gate_builtin (b := .append) (xs := #[.tmp 28, .tmp 30]) rfl ?_); at_builtin; refine Kd.R_append Kd.string (w0 := w) w.heap.size rfl (.tmp 28) (.tmp 30) 22 9 (.string ⟨#[]⟩) 16 rfl Try.underlying22 info9 rfl (by decide) (by omega) u6 ((bs.take i).map D) d [.string d] (fun j => w.heap.size ≤ j) (fun _ => False) rfl rfl ?aP (fun _ hk => hk.elim) ?aF ?aO ?aB ?aS ?aL ?_; (case aP => exact rfl); (case aF => exact (fun j hj => Nat.le_trans HB1.out.size hj)); (case aO => exact HO1.out); (case aB => exact HB1.out); (case aS => exact HB1.out.size); (case aL => rw [List.length_map, List.length_take]; have := HL.out; omega); intro v1 w10 ho hb3 hg hat; have HOX := Aside0.mk ho; have HBX := Aside0.mk hb3; clear ho hb3 hg hat))
      go_roundg k1
      case measure => exact Nat.lt_succ_self _
      refine ⟨i + 1, by rfl, ⟨by have := HI.out; omega⟩, ⟨?_⟩, HBX⟩
      have := HOX.out
      rw [← HD.out] at this
      rw [List.take_succ_eq_append_getElem HIL.out, List.map_append]; exact this
end Go.Proofs.Ytelhpamhnnjgaaa.Fo
