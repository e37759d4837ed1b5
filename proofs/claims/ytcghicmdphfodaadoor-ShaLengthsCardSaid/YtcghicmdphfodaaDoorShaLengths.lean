/- The walk of massiflaw01.ShaLengths: for every byte and every number it answers true, and what was there stays. No condition beyond those that each theorem names. -/
import Derived.Test.YtcghicmdphfodaaDoorPShaLengthsx
import Derived.Test.YtcghicmdphfodaaDoorPShaLengthsXRef
import Derived.Test.YtcghicmdphfodaaDoorMB
set_option linter.unusedVariables false
set_option linter.unusedSimpArgs false
namespace Go.Proofs.YtcghicmdphfodaaDoor.Sha
open Go.RowKit Go.Proofs.YtcghicmdphfodaaDoorW.PrintWords Go.Proofs.YtcghicmdphfodaaDoorW.PrintLast Go.Proofs.YtcghicmdphfodaaDoorW.PrintMore
theorem HSt.below {w w1 : World} {hb : Nat} {M : List Int} {z : Int} (h : HSt w hb M z) (hB : Below w.heap.size w w1) : HSt w1 hb M z := by
  obtain ⟨S, B, f, h1, h2⟩ := h
  exact ⟨S, B, f, (hB.block hb (blk_lt h1)).trans h1, h2⟩
theorem HSt.lt {w : World} {hb : Nat} {M : List Int} {z : Int} (h : HSt w hb M z) : hb < w.heap.size := by
  obtain ⟨S, B, f, h1, h2⟩ := h
  exact blk_lt h1
theorem HSt.other {w w1 : World} {hb hc : Nat} {M : List Int} {z : Int} (h : HSt w hb M z) (hk : K1 w w1 hc) (hne : hb ≠ hc) : HSt w1 hb M z := by
  have hl := h.lt
  obtain ⟨S, B, f, h1, h2⟩ := h
  exact ⟨S, B, f, (hk.keep hb hl hne).trans h1, h2⟩
/-- A Hash that was handed just one text. -/
def H1 (w : World) (hb : Nat) (s : ByteArray) : Prop := HSt w hb (bI s) ((s.size : Int) % 18446744073709551616)
theorem H1.below {w w1 : World} {hb : Nat} {s : ByteArray} (h : H1 w hb s) (hB : Below w.heap.size w w1) : H1 w1 hb s := HSt.below h hB
theorem H1.other {w w1 : World} {hb hc : Nat} {s : ByteArray} (h : H1 w hb s) (hk : K1 w w1 hc) (hne : hb ≠ hc) : H1 w1 hb s := HSt.other h hk hne
theorem H1.lt {w : World} {hb : Nat} {s : ByteArray} (h : H1 w hb s) : hb < w.heap.size := HSt.lt h
/-- The sum of one text. -/
def sum1 (s : ByteArray) : ByteArray := sha (bI s)
theorem new1_calls (w : World) : Calls Tryd.prog 13 #[] w fun e w' => e = .returned (.pointer (some ⟨w.heap.size, 0, none⟩)) ∧ H1 w' w.heap.size ByteArray.empty ∧ Below w.heap.size w w' := by
  refine (new_calls w).mono ?_
  rintro e w1 ⟨rfl, hw1⟩
  refine ⟨rfl, ?_, ?_⟩
  · rw [hw1]; exact new_st w
  · rw [hw1]; exact below_alloc (Below.refl _ _) _
theorem write1_calls (w : World) (hb : Nat) (t s : ByteArray) (h : H1 w hb t) (hs : s.size ≤ 9223372036854775807) :
    Calls Tryd.prog 14 #[.pointer (some ⟨hb, 0, none⟩), .string s] w fun e w' => e = .returned (.tuple #[]) ∧ H1 w' hb (t ++ s) ∧ K1 w w' hb := by
  refine (write_calls w hb _ _ s h hs).mono ?_
  rintro e w1 ⟨rfl, h1, h2⟩
  refine ⟨rfl, ?_, h2⟩
  unfold H1
  rw [bI_append, ByteArray.size_append]
  have e3 : ((t.size + s.size : Nat) : Int) % 18446744073709551616 = ((t.size : Int) % 18446744073709551616 + (s.size : Int)) % 18446744073709551616 := by rw [Int.emod_add_emod]; rfl
  rw [e3]; exact h1
theorem sum1_calls (w : World) (hb : Nat) (t : ByteArray) (h : H1 w hb t) :
    Calls Tryd.prog 15 #[.pointer (some ⟨hb, 0, none⟩)] w fun e w' => e = .returned (.string (sum1 t)) ∧ Below w.heap.size w w' := by
  have h1 := sum_calls w hb _ _ h
  have e : shaB (bI t) ((t.size : Int) % 18446744073709551616) = sum1 t := by unfold sum1 sha; rw [bI_len]
  rw [e] at h1
  exact h1
theorem of1_calls (A : Option Addr) (c : Nat) (s : ByteArray) (w : World) (hr : Kd.C Kd.string w A 1 [s]) (hcc : 1 ≤ c) (hl : s.size ≤ 9223372036854775807) :
    Calls Tryd.prog 11 #[.slice A 1 c] w fun e w' => e = .returned (.string (sum1 s)) ∧ Below w.heap.size w w' := by
  have h1 := of_calls A c [s] w hr hcc (fun x hx => by rw [List.mem_singleton.1 hx]; exact hl)
  have e : sha ([s].flatMap bI) = sum1 s := by unfold sum1; simp
  rw [e] at h1
  exact h1
theorem one_cell {w : World} {g : Nat} {s : ByteArray} {t : TypeId} (h : w.heap[g]? = some (.cells #[.string s] t (0, 0))) : Kd.C Kd.string w (some ⟨g, 0, none⟩) 1 [s] := by
  refine Kd.C_of_reads (h1 := fun _ => rfl) (d := ByteArray.empty) ⟨rfl, by simp [maxLen], fun _ => ⟨⟨g, 0, none⟩, rfl, fun i hi => ?_⟩⟩
  have e : i = 0 := by simp at hi; omega
  subst e
  simp [World.cell?, h, Addr.add]
theorem fixed_true : PShaLengths.massiflaw01_fixed.f = some true := by decide +kernel
theorem byte_str (w : World) (b : Int) : (convert 30 9 (.slice (some ⟨w.heap.size, 0, none⟩) 1 1)).run Tryd.prog (w.alloc (.cells #[.int .u8 b] 5)) = .ok (.string (strOfNums [b])) (w.alloc (.cells #[.int .u8 b] 5)) := by
  have h2 := World.ownsRow_lit (base := w.heap.size) (e := 5) (size := 1) w #[.int .u8 b] 1 (Nat.le_refl _) (by simp [maxLen]) (by simp)
  have hR : Kd.R (Kd.int .u8) 5 (w.alloc (.cells #[.int .u8 b] 5)) w.heap.size (fun j => w.heap.size ≤ j) (.slice (some ⟨w.heap.size, 0, none⟩) 1 1) [b] := Kd.R_of_own (enc := Value.int .u8) (h1 := fun _ => rfl) (xs := [b]) (by simpa [encs] using h2) (fun k hk => by cases hk; exact Nat.le_refl _)
  exact own_string (P := Tryd.prog) Tryd.underlying30 Tryd.underlying5 Tryd.underlying9 (Kd.own_of_R hR)
theorem rof1_calls (A : Option Addr) (c : Nat) (s : ByteArray) (w : World) (hr : Kd.C Kd.string w A 1 [s]) (hcc : 1 ≤ c) (hl : s.size ≤ 4611686018427387904) (hg : Gl w) :
    Calls Tryd.prog 12 #[.slice A 1 c] w fun e w' => e = .returned (.string (sum1 s)) ∧ Below w.heap.size w w' := by
  have h1 := rof_calls A c [s] w hr hcc (by rw [show ([s] : List ByteArray).flatMap bI = bI s from by simp, bI_len]; exact hl) hg
  have e : sha ([s].flatMap bI) = sum1 s := by unfold sum1; simp
  rw [e] at h1
  exact h1
set_option maxHeartbeats 8000000 in
set_option maxRecDepth 100000 in
theorem lengths_calls (a0 a1 : Int) (w : World) (hg : Gl w) :
    Calls Tryd.prog 4 #[.int .u8 a0, .int .i64 a1] w fun e w' => e = .returned (.bool true) ∧ Below w.heap.size w w' := by
  have HG := Aside0.mk hg
  obtain ⟨t, ht⟩ : ∃ t : Int, a1.tmod 200 = t := ⟨_, rfl⟩
  have ht1 : -200 < t ∧ t < 200 := by rw [← ht]; exact ⟨Int.lt_tmod_of_pos _ (by decide), Int.tmod_lt_of_pos _ (by decide)⟩
  have u1 : wrap64 (t + 200) = t + 200 := MB.wrap64_in _ (by omega) (by omega)
  obtain ⟨F, hF⟩ : ∃ F : Int, (t + 200).tmod 200 = F := ⟨_, rfl⟩
  have hF1 : 0 ≤ F ∧ F < 200 := by rw [← hF, Int.tmod_eq_emod_of_nonneg (by omega)]; omega
  have u2 : wrap64 (F + 70) = F + 70 := MB.wrap64_in _ (by omega) (by omega)
  have HF := Aside0.mk hF1
  clear hg ht1 hF1
  go_enter Tryd.func4, Tryd.ntmps4
  go_wp2_with (fail)
  refine (PShaLengths.massiflaw01_fixed.calls true w fixed_true).mono ?_
  rintro e w1 ⟨rfl, hb1⟩
  have HB1 := Aside0.mk hb1
  clear hb1
  go_wp2_with (fail)
  refine (new1_calls w1).mono ?_
  rintro e w2 ⟨rfl, hH, hb2⟩
  have HH2 := Aside0.mk hH
  have HB2 := Aside0.mk (below_weaken HB1.out HB1.out.size hb2)
  obtain ⟨hb, hhb⟩ : ∃ b, b = w1.heap.size := ⟨_, rfl⟩
  have HLE := Aside0.mk (show w.heap.size ≤ hb from by rw [hhb]; exact HB1.out.size)
  rw [← hhb] at HH2 ⊢
  clear hH hb2 hhb HB1 ht hF
  go_wp2_with (fail)
  obtain ⟨s1, hs1⟩ : ∃ s1, s1 = strOfNums [a0] := ⟨_, rfl⟩
  have hsz : s1.size = 1 := by rw [hs1, str_len]; rfl
  have HCV := Aside0.mk (show ∀ W : World, (convert 30 9 (.slice (some ⟨W.heap.size, 0, none⟩) 1 1)).run Tryd.prog (W.alloc (.cells #[.int .u8 a0] 5)) = .ok (.string s1) (W.alloc (.cells #[.int .u8 a0] 5)) from fun W => by rw [hs1]; exact byte_str W a0)
  have HSZ := Aside0.mk hsz
  clear hs1 hsz
  go_loopg [6, 7] (F.toNat + 70) (fun kq v6 v7 w' => ∃ (i : Nat) (x : ByteArray), v6 = .string x ∧ v7 = .int .i64 (i : Int) ∧ Aside0 (i + kq = F.toNat + 70) ∧ Aside0 (x.size = i) ∧ Aside0 (H1 w' hb x) ∧ Aside0 (Below w.heap.size w w'))
  case atStart => exact ⟨0, ⟨#[]⟩, by rfl, by rfl, ⟨by omega⟩, ⟨by rfl⟩, HH2, HB2⟩
  case round =>
    obtain ⟨i, x, rfl, rfl, HI, HX, HH, HB⟩ := hrel
    cases gk with
    | zero =>
      have hlt : decide ((i : Int) < F + 70) = false := decide_eq_false (by have h1 := HI.out; have h2 := HF.out; clear u1 u2; omega)
      go_wp2_with (fail)
      go_ret
      exact ⟨rfl, HB.out⟩
    | succ k1 =>
      have hlt : decide ((i : Int) < F + 70) = true := decide_eq_true (by have h1 := HI.out; have h2 := HF.out; clear u1 u2; omega)
      have hiz : i ≤ 300 := by have h1 := HI.out; have h2 := HF.out; clear u1 u2; omega
      have u3 : wrap64 ((i : Int) + 1) = (i : Int) + 1 := by clear u1 u2; exact MB.wrap64_in _ (by omega) (by omega)
      have hc1 := HCV.out wr
      have hng : (9223372036854775807 < x.size + s1.size) = False := eq_false (by rw [HX.out, HSZ.out]; clear u1 u2 u3; omega)
      obtain ⟨y, hy⟩ : ∃ y, y = x ++ s1 := ⟨_, rfl⟩
      have HY := Aside0.mk (show y.size = i + 1 from by rw [hy, ByteArray.size_append, HX.out, HSZ.out])
      have HYE := Aside0.mk hy
      have HIZ := Aside0.mk hiz
      clear hy hiz
      go_wp2_with (fail)
      obtain ⟨v1, hv1⟩ : ∃ v, v = wr.alloc (.cells #[.int .u8 a0] 5) := ⟨_, rfl⟩
      have hba : Below wr.heap.size wr v1 := by rw [hv1]; exact below_alloc (Below.refl _ _) _
      have HH1 := Aside0.mk (HH.out.below hba)
      have HB3 := Aside0.mk (below_weaken HB.out HB.out.size hba)
      rw [← hv1]
      clear hv1 hba hc1
      refine (write1_calls v1 hb x s1 HH1.out (by rw [HSZ.out]; decide)).mono ?_
      rintro e v2 ⟨rfl, hH2, hK2⟩
      rw [← HYE.out] at hH2
      have HH4 := Aside0.mk hH2
      have HB4 := Aside0.mk (K1.old HB3.out HLE.out hK2)
      clear hH2 hK2
      have hc2 := HCV.out v2
      have hba := below_alloc (Below.refl v2.heap.size v2) (.cells #[.int .u8 a0] 5)
      by_cases hiF : F ≤ (i : Int)
      · have d1 : decide ((i : Int) ≥ F) = true := decide_eq_true hiF
        have d2 : decide (F ≤ (i : Int)) = true := decide_eq_true hiF
        clear hiF
        go_wp2_with (fail)
        rw [← HYE.out]
        obtain ⟨v3, hv3⟩ : ∃ v, v = v2.alloc (.cells #[.int .u8 a0] 5) := ⟨_, rfl⟩
        rw [← hv3] at hba ⊢
        have HH5 := Aside0.mk (HH4.out.below hba)
        have HB5 := Aside0.mk (below_weaken HB4.out HB4.out.size hba)
        clear hv3 hba hc2
        refine (sum1_calls v3 hb y HH5.out).mono ?_
        rintro e v4 ⟨rfl, hb4⟩
        have HH6 := Aside0.mk (HH5.out.below hb4)
        have HB6 := Aside0.mk (below_weaken HB5.out HB5.out.size hb4)
        clear hb4
        go_wp2_with (fail)
        obtain ⟨v5, hv5⟩ : ∃ v, v = v4.alloc (.cells #[.string y] 9) := ⟨_, rfl⟩
        have hr5 : Kd.C Kd.string v5 (some ⟨v4.heap.size, 0, none⟩) 1 [y] := by rw [hv5]; exact one_cell (blk_new _ _)
        have hba : Below v4.heap.size v4 v5 := by rw [hv5]; exact below_alloc (Below.refl _ _) _
        rw [← hv5]
        have HH7 := Aside0.mk (HH6.out.below hba)
        have HB7 := Aside0.mk (below_weaken HB6.out HB6.out.size hba)
        clear hv5 hba
        refine (of1_calls _ 1 y v5 hr5 (Nat.le_refl _) (by rw [HY.out]; have := HIZ.out; omega)).mono ?_
        rintro e v6 ⟨rfl, hb6⟩
        have HH8 := Aside0.mk (HH7.out.below hb6)
        have HB8 := Aside0.mk (below_weaken HB7.out HB7.out.size hb6)
        clear hb6 hr5
        go_wp2_with (fail)
        refine (sum1_calls v6 hb y HH8.out).mono ?_
        rintro e v7 ⟨rfl, hb7⟩
        have HH9 := Aside0.mk (HH8.out.below hb7)
        have HB9 := Aside0.mk (below_weaken HB8.out HB8.out.size hb7)
        clear hb7
        go_wp2_with (fail)
        obtain ⟨v8, hv8⟩ : ∃ v, v = v7.alloc (.cells #[.string y] 9) := ⟨_, rfl⟩
        have hr8 : Kd.C Kd.string v8 (some ⟨v7.heap.size, 0, none⟩) 1 [y] := by rw [hv8]; exact one_cell (blk_new _ _)
        have hba : Below v7.heap.size v7 v8 := by rw [hv8]; exact below_alloc (Below.refl _ _) _
        rw [← hv8]
        have HHA := Aside0.mk (HH9.out.below hba)
        have HBA := Aside0.mk (below_weaken HB9.out HB9.out.size hba)
        clear hv8 hba
        refine (rof1_calls _ 1 y v8 hr8 (Nat.le_refl _) (by rw [HY.out]; have := HIZ.out; omega) (HG.out.below HBA.out)).mono ?_
        rintro e v9 ⟨rfl, hb9⟩
        have HHB := Aside0.mk (HHA.out.below hb9)
        have HBB := Aside0.mk (below_weaken HBA.out HBA.out.size hb9)
        clear hb9 hr8
        go_wp2_with (fail)
        go_roundg k1
        case measure => omega
        case rel => exact ⟨i + 1, y, by rfl, by go_num, ⟨by have := HI.out; omega⟩, HY, HHB, HBB⟩
      · have d1 : decide ((i : Int) ≥ F) = false := decide_eq_false hiF
        have d2 : decide (F ≤ (i : Int)) = false := decide_eq_false hiF
        clear hiF
        go_wp2_with (fail)
        rw [← HYE.out]
        obtain ⟨v3, hv3⟩ : ∃ v, v = v2.alloc (.cells #[.int .u8 a0] 5) := ⟨_, rfl⟩
        rw [← hv3] at hba ⊢
        have HH5 := Aside0.mk (HH4.out.below hba)
        have HB5 := Aside0.mk (below_weaken HB4.out HB4.out.size hba)
        clear hv3 hba hc2
        go_roundg k1
        case measure => omega
        case rel => exact ⟨i + 1, y, by rfl, by go_num, ⟨by have := HI.out; omega⟩, HY, HH5, HB5⟩
end Go.Proofs.YtcghicmdphfodaaDoor.Sha
