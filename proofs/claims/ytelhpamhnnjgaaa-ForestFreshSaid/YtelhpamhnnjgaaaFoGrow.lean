/- massiflaw10: strength, few, grown. No condition beyond those that each theorem names. -/
import Derived.Test.YtelhpamhnnjgaaaFoLong
set_option linter.unusedVariables false
set_option linter.unusedSimpArgs false
namespace Go.Proofs.Ytelhpamhnnjgaaa.Fo
open Go.RowKit Go.Proofs.Ytelhpamhnnjgaaa.MB Go.Proofs.Ytelhpamhnnjgaaa.Pk Go.Proofs.YtelhpamhnnjgaaaW.PrintWords Go.Proofs.YtelhpamhnnjgaaaW.PrintLast Go.Proofs.YtelhpamhnnjgaaaW.PrintMore Go.Proofs.Ytelhpamhnnjgaaa.PForestFresh Go.Proofs.Ytelhpamhnnjgaaa.Ob
def fewF (l : List ByteArray) : List ByteArray := if 70 < l.length then l.take 70 else l
theorem fewF_len (l : List ByteArray) : (fewF l).length ≤ 70 := by
  unfold fewF; split
  · rw [List.length_take]; omega
  · omega
theorem few_calls (w : World) (A : Option Addr) (c : Nat) (l : List ByteArray) (hC : Kd.C Kd.string w A l.length l) (hc : l.length ≤ c) :
    Calls Try.prog 9 #[.slice A l.length c] w fun e w' => e = .returned (.slice A (fewF l).length c) ∧ Kd.C Kd.string w' A (fewF l).length (fewF l) ∧ (fewF l).length ≤ c ∧ Below w.heap.size w w' := by
  by_cases h : 70 < l.length
  · have e : fewF l = l.take 70 := by unfold fewF; rw [if_pos h]
    have el : (l.take 70).length = 70 := by rw [List.length_take]; omega
    have HC := Aside0.mk (Kd.C_take hC (Nat.le_of_lt h))
    have t1 : decide ((l.length : Int) > 70) = true := decide_eq_true (by omega)
    have t2 : decide ((70 : Int) < l.length) = true := decide_eq_true (by omega)
    have t3 : decide (70 < l.length) = true := decide_eq_true h
    have HL := Aside0.mk (show 70 ≤ c from by omega)
    have t4 : (70 : Int) ≤ (c : Int) := by omega
    have t5 : 70 ≤ c := by omega
    rw [e, el]
    rw [el] at HC
    clear e el hC hc h
    go_enter Try.func9, Try.ntmps9
    go_wp2_with (fail)
    go_ret
    exact ⟨rfl, HC.out, HL.out, Below.refl _ _⟩
  · have e : fewF l = l := by unfold fewF; rw [if_neg h]
    have HC := Aside0.mk hC
    have HL := Aside0.mk hc
    have t1 : decide ((l.length : Int) > 70) = false := decide_eq_false (by omega)
    have t2 : decide ((70 : Int) < l.length) = false := decide_eq_false (by omega)
    have t3 : decide (70 < l.length) = false := decide_eq_false h
    rw [e]
    clear e hC hc h
    go_enter Try.func9, Try.ntmps9
    go_wp2_with (fail)
    go_ret
    exact ⟨rfl, HC.out, HL.out, Below.refl _ _⟩
def fits (l : List ByteArray) : List ByteArray := l.filter fun x => decide (x.size ≤ 1048576)
theorem fits_len (l : List ByteArray) : (fits l).length ≤ l.length := List.length_filter_le _ _
theorem fits_mem (l : List ByteArray) : ∀ s ∈ fits l, s.size ≤ 1048576 := fun s hs => by
  unfold fits at hs; have := (List.mem_filter.1 hs).2; simpa using this
theorem fits_yes (l : List ByteArray) (i : Nat) (h : i < l.length) (hs : l[i].size ≤ 1048576) : fits (l.take (i + 1)) = fits (l.take i) ++ [l[i]] := by
  unfold fits; rw [List.take_succ_eq_append_getElem h, List.filter_append, List.filter_cons, if_pos (by simpa using hs)]; rfl
theorem fits_no (l : List ByteArray) (i : Nat) (h : i < l.length) (hs : ¬ l[i].size ≤ 1048576) : fits (l.take (i + 1)) = fits (l.take i) := by
  unfold fits; rw [List.take_succ_eq_append_getElem h, List.filter_append, List.filter_cons, if_neg (by simpa using hs)]; simp
theorem fits_all (l : List ByteArray) (h : ∀ s ∈ l, s.size ≤ 1048576) : fits l = l := List.filter_eq_self.2 (fun s hs => by simpa using h s hs)
set_option maxHeartbeats 4000000 in
set_option maxRecDepth 100000 in
theorem grown_calls (w : World) (k : Int) (k1 : 1 ≤ k) (k2 : k ≤ 32) (A : Option Addr) (c : Nat) (l : List ByteArray) (hC : Kd.C Kd.string w A l.length l) (hc : l.length ≤ c) (hl : l.length ≤ 100) :
    Calls Try.prog 20 #[.int .i64 k, .slice A l.length c] w fun e w' => ∃ (hb B : Nat) (v : Value), e = .returned (.tuple #[.pointer (some ⟨hb, 0, none⟩), v, .bool true]) ∧
      Fr w' hb (fun j => w.heap.size ≤ j ∧ j < B) k (fits l).length (fo k (fits l)) ∧ Kd.string.R 9 w' w.heap.size (fun j => B ≤ j) v (fits l) ∧ w.heap.size ≤ B ∧ B ≤ w'.heap.size ∧ Below w.heap.size w w' := by
  have HC := Aside0.mk hC
  have HL := Aside0.mk hl
  have HK := Aside0.mk (And.intro k1 k2)
  clear hC hc hl k1 k2
  go_enter Try.func20, Try.ntmps20
  go_wp2_with (fail)
  refine (new_ok w k HK.out.1 HK.out.2).mono ?_
  rintro e w1 ⟨hb, rfl, hr, hb1⟩
  obtain ⟨B, hB⟩ : ∃ B, B = w1.heap.size := ⟨_, rfl⟩
  have hr1 := hr.bound
  rw [← hB] at hr1
  have HR1 := Aside0.mk hr1
  have HB1 := Aside0.mk hb1
  have HWB := Aside0.mk (show w.heap.size ≤ B from by rw [hB]; exact hb1.size)
  have HBW := Aside0.mk (Nat.le_of_eq hB)
  clear hr hr1 hb1 hB
  go_wp2_with (first | (go_at_call 11; refine (num_calls _ _).mono ?_; rintro e _ ⟨rfl, rfl⟩))
  go_loopg [9, 10] l.length (fun kq v9 v10 w' => ∃ i : Nat, v10 = .int .i64 (i : Int) ∧ Aside0 (i + kq = l.length) ∧ Aside0 (Kd.string.R 9 w' w.heap.size (fun j => B ≤ j) v9 (fits (l.take i))) ∧ Aside0 (Fr w' hb (fun j => w.heap.size ≤ j ∧ j < B) k (fits (l.take i)).length (fo k (fits (l.take i)))) ∧ Aside0 (Below w.heap.size w w') ∧ Aside0 (B ≤ w'.heap.size))
  case atStart => exact ⟨0, by rfl, ⟨by omega⟩, ⟨Kd.R_nil _ _ _ _ _⟩, HR1, HB1, HBW⟩
  case round =>
    obtain ⟨i, rfl, HI, HT, HR, HB, HBz⟩ := hrel
    cases gk with
    | zero =>
      have hlt : decide ((i : Int) < (l.length : Int)) = false := decide_eq_false (by have := HI.out; omega)
      have hlt' : decide (i < l.length) = false := decide_eq_false (by have := HI.out; omega)
      have e : l.take i = l := List.take_of_length_le (by have := HI.out; omega)
      rw [e] at HT HR
      obtain ⟨A9, c9, rfl, hcc, hC9⟩ := Kd.R_reads HT.out
      have HFL := Aside0.mk (Nat.le_trans (fits_len l) HL.out)
      have u1 : IntKind.u64.wrap ((fits l).length : Int) = ((fits l).length : Int) := IntWalk.u64_in _ (by have := HFL.out; omega)
      clear hcc hC9 e
      go_wp2_with (fail)
      refine (size_calls wr hb _ k _ _ HR.out).mono ?_
      rintro e w5 ⟨rfl, hb5⟩
      have HB5 := Aside0.mk (below_weaken HB.out HB.out.size hb5)
      have HR5 := Aside0.mk (HR.out.below hb5)
      have HT5 := Aside0.mk (Kd.R_below HT.out hb5)
      have HZ5 := Aside0.mk (Nat.le_trans HBz.out hb5.size)
      clear hb5
      go_wp2_with (fail)
      go_ret3
      exact ⟨hb, B, _, rfl, HR5.out, HT5.out, HWB.out, HZ5.out, HB5.out⟩
    | succ k1 =>
      have hil : i < l.length := by have := HI.out; omega
      have hlt : decide ((i : Int) < (l.length : Int)) = true := decide_eq_true (by omega)
      have hlt' : decide (i < l.length) = true := decide_eq_true hil
      have u3 : wrap64 ((i : Int) + 1) = (i : Int) + 1 := MB.wrap64_in _ (by omega) (by have := HL.out; omega)
      obtain ⟨ad, ea, hx⟩ := Kd.at_string HC.out (i : Int) (by omega) (by omega)
      cases ea
      have HIL := Aside0.mk hil
      obtain ⟨x, hxe⟩ : ∃ x, x = l[i]'HIL.out := ⟨_, rfl⟩
      have HX0 := Aside0.mk (show w.cell? (ad.add i) = some (.string x) from by
        rw [Int.toNat_natCast] at hx; rw [hx, hxe]
        congr 2
        unfold rdOf; rw [Int.toNat_natCast, List.getD_eq_getElem?_getD, List.getElem?_eq_getElem hil]; rfl)
      have hx1 : wr.cell? (ad.add i) = some (.string x) := (HB.out.cell (World.block_lt_of_cell? _ _ HX0.out)).trans HX0.out
      have HXE := Aside0.mk hxe
      have p1 : (0 : Int) ≤ (i : Int) := by omega
      have p2 : (i : Int) < (l.length : Int) := by omega
      clear hx hxe
      obtain ⟨L, hL⟩ : ∃ L, L = fits (l.take i) := ⟨_, rfl⟩
      rw [← hL] at HR HT
      have HLL := Aside0.mk (show L.length ≤ 100 from by rw [hL]; exact Nat.le_trans (fits_len _) (Nat.le_trans (by rw [List.length_take]; omega) HL.out))
      have HLe := Aside0.mk hL
      clear hL
      by_cases hbig : 1048576 < x.size
      · have t1 : decide ((x.size : Int) > 1048576) = true := decide_eq_true (by omega)
        have t2 : decide ((1048576 : Int) < x.size) = true := decide_eq_true (by omega)
        have t3 : decide (1048576 < x.size) = true := decide_eq_true (by omega)
        have HBIG := Aside0.mk hbig
        clear hbig
        go_wp2_with (fail)
        refine (append_long wr hb x HBIG.out).mono ?_
        rintro e w5 ⟨rfl, hb5⟩
        have HB5 := Aside0.mk (below_weaken HB.out HB.out.size hb5)
        have HR5 := Aside0.mk (HR.out.below hb5)
        have HT5 := Aside0.mk (Kd.R_below HT.out hb5)
        have HZ5 := Aside0.mk (Nat.le_trans HBz.out hb5.size)
        have hx5 := (HB5.out.cell (World.block_lt_of_cell? _ _ HX0.out)).trans HX0.out
        clear hb5 hx1
        go_wp2_with (first | (go_at_call 11; refine (num_calls _ _).mono ?_; rintro e _ ⟨rfl, rfl⟩))
        go_roundg k1
        case measure => exact Nat.lt_succ_self _
        case rel =>
          have ef : fits (l.take (i + 1)) = L := by rw [HLe.out]; exact fits_no l i HIL.out (by rw [← HXE.out]; have := HBIG.out; omega)
          exact ⟨i + 1, by rw [u3]; rfl, ⟨by have := HI.out; omega⟩, ⟨by rw [ef]; exact HT5.out⟩, ⟨by rw [ef]; exact HR5.out⟩, HB5, HZ5⟩
      · have t1 : decide ((x.size : Int) > 1048576) = false := decide_eq_false (by omega)
        have t2 : decide ((1048576 : Int) < x.size) = false := decide_eq_false (by omega)
        have t3 : decide (1048576 < x.size) = false := decide_eq_false (by omega)
        have HBIG := Aside0.mk hbig
        clear hbig
        go_wp2_with (fail)
        refine (append_ok wr hb _ k L x HR.out HK.out.1 HK.out.2 (by have := HLL.out; omega) (by have := HBIG.out; omega)).mono ?_
        intro e w5 hA
        obtain ⟨A1, c1, rfl, hl, hr, hk⟩ := hA.told HBz.out
        obtain ⟨m, hm⟩ : ∃ m, m = L.length + 1 := ⟨_, rfl⟩
        obtain ⟨t, ht⟩ : ∃ t, t = Pk.t1 L.length := ⟨_, rfl⟩
        have htr : tr m = t := by rw [hm, ht]; rfl
        have ht40 : t ≤ 40 := by rw [ht]; exact t1_le _ (by have := HLL.out; omega)
        have hnt := num_Trail.is m 65 (by have := HLL.out; omega) (by have := HLL.out; omega)
        rw [htr] at hnt
        rw [← ht]
        rw [← hm] at hr
        have HNT := Aside0.mk hnt
        have HM := Aside0.mk hm
        have u4 : wrap64 (1 + (t : Int)) = (t : Int) + 1 := by rw [MB.wrap64_in _ (by omega) (by omega)]; omega
        clear hm ht htr ht40 hnt
        have HR5 := Aside0.mk hr
        have HB5 := Aside0.mk (Kp.old HB.out HB.out.size hk (fun j hj => hj.1))
        have HT5 := Aside0.mk (Kd.R_step HT.out (fun j hj hl => hk.keep j hl (fun h => by omega)))
        have HZ5 := Aside0.mk (Nat.le_trans HBz.out hk.size)
        have hx5 := (HB5.out.cell (World.block_lt_of_cell? _ _ HX0.out)).trans HX0.out
        clear hl hr hk hA hx1
        go_wp2_with (first | (go_at_call 11; refine (num_calls _ _).mono ?_; rintro e _ ⟨rfl, rfl⟩))
        refine (size_calls w5 hb _ k _ _ HR5.out).mono ?_
        rintro e w6 ⟨rfl, hb6⟩
        have HB6 := Aside0.mk (below_weaken HB5.out HB5.out.size hb6)
        have HR6 := Aside0.mk (HR5.out.below hb6)
        have HT6 := Aside0.mk (Kd.R_below HT5.out hb6)
        have HZ6 := Aside0.mk (Nat.le_trans HZ5.out hb6.size)
        clear hb6 hx5
        go_wp2_with (fail)
        refine (num_Trail.calls 65 m _ _ HNT.out).mono ?_
        rintro e w7 ⟨rfl, hd7⟩
        have hb7 := hd7.below
        have HB7 := Aside0.mk (below_weaken HB6.out HB6.out.size hb7)
        have HR7 := Aside0.mk (HR6.out.below hb7)
        have HT7 := Aside0.mk (Kd.R_below HT6.out hb7)
        have HZ7 := Aside0.mk (Nat.le_trans HZ6.out hb7.size)
        have hx7 := (HB7.out.cell (World.block_lt_of_cell? _ _ HX0.out)).trans HX0.out
        clear hb7 hd7
        go_wp2_with (first | ((with_reducible refine gate_builtin (b := .append) (xs := #[.tmp 66, .tmp 71]) rfl ?_); at_builtin; refine Kd.R_append Kd.string (w0 := w) w.heap.size rfl (.tmp 66) (.tmp 71) 22 9 (.string ⟨#[]⟩) 16 rfl Try.underlying22 info9 rfl (by decide) (by omega) u9 L x [.string x] (fun j => B ≤ j) (fun _ => False) rfl rfl ?aP (fun _ hk => hk.elim) ?aF ?aO ?aB ?aS ?aL ?_; (case aP => exact rfl); (case aF => exact (fun j hj => Nat.le_trans HZ7.out hj)); (case aO => exact HT7.out); (case aB => exact HB7.out); (case aS => exact HB7.out.size); (case aL => have := HLL.out; omega); intro v8 w8 ho hb8 hg8 hat; have HT8 := Aside0.mk ho; have HB8 := Aside0.mk hb8; have HR8 := Aside0.mk (HR7.out.kept (Kp.grown (Kp.refl w7 (fun j => B ≤ j)) hg8 (fun j hj => .inl ((Kd.R_bound HT7.out).1 j hj).1)) (fun j hj => by omega)); have HZ8 := Aside0.mk (Nat.le_trans HZ7.out hg8.size); clear ho hb8 hg8 hat))
        go_roundg k1
        case measure => exact Nat.lt_succ_self _
        case rel =>
          have ef : fits (l.take (i + 1)) = L ++ [x] := by rw [HLe.out, HXE.out]; exact fits_yes l i HIL.out (by rw [← HXE.out]; have := HBIG.out; omega)
          exact ⟨i + 1, by rw [u3]; rfl, ⟨by have := HI.out; omega⟩, ⟨by rw [ef]; exact HT8.out⟩, ⟨by rw [ef, List.length_append, List.length_singleton, ← HM.out]; exact HR8.out⟩, HB8, HZ8⟩
end Go.Proofs.Ytelhpamhnnjgaaa.Fo
