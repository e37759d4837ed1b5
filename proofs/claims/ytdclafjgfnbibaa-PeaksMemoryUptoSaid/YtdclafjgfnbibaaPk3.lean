/- Package peaks: Clone, Peaks, From, New, Add, Join. No condition beyond those that each theorem names. -/
import Derived.Test.YtdclafjgfnbibaaPk2
import Derived.Lib.SliceRun
set_option linter.unusedVariables false
set_option linter.unusedSimpArgs false
namespace Go.Proofs.Ytdclafjgfnbibaa.Pk
open Go.RowKit Go.Proofs.Ytdclafjgfnbibaa.MB Go.Proofs.YtdclafjgfnbibaaW.PrintWords Go.Proofs.YtdclafjgfnbibaaW.PrintLast Go.Proofs.YtdclafjgfnbibaaW.PrintMore Go.Proofs.Ytdclafjgfnbibaa.PPeaksRefused Go.Proofs.Ytdclafjgfnbibaa.Ob
/-- A fresh list of texts. -/
def Fresh (w : World) (L : List ByteArray) (e : Ending) (w' : World) : Prop := ∃ v, e = .returned v ∧ Kd.string.R 9 w' w.heap.size (fun j => w.heap.size ≤ j) v L ∧ Below w.heap.size w w'
set_option maxHeartbeats 1000000 in
set_option maxRecDepth 100000 in
theorem clone_calls (w : World) (A : Option Addr) (c : Nat) (L : List ByteArray) (hC : Kd.C Kd.string w A L.length L) (hl : L.length ≤ 1000000) :
    Calls Try.prog 23 #[.slice A L.length c] w (Fresh w L) := by
  have hq := fun (w : World) (a : Option Addr) (n c n' c' : Nat) => Lib.run_eql_slice_nil (P := Try.prog) w _ _ a n c n' c' Try.underlying25
  rcases A with _ | ad
  · have e : L = [] := by
      rcases L with _ | ⟨s, L⟩
      · rfl
      · obtain ⟨ad, h, _⟩ := hC.2.2 (by simp)
        cases h
    subst e
    clear hC hl
    go_enter Try.func23, Try.ntmps23
    go_wp2
    go_ret
    exact ⟨_, rfl, Kd.R_nil _ _ _ _ _, Below.refl _ _⟩
  · have HC := Aside0.mk hC
    have HL := Aside0.mk hl
    clear hC hl
    go_enter Try.func23, Try.ntmps23
    go_wp2_with (first | ((with_reducible refine gate_dst (N := 5) rfl ?_); refine Kd.R_lit Kd.string w.heap.size 9 ?hg (N := 5) ?hd (xs := ([] : List ByteArray)) (inner := []) (ok := fun j => w.heap.size ≤ j) (okp := fun _ => False) ?hr ?hp (fun _ hk => hk.elim) (Nat.le_refl _) (Below.refl _ _) (Nat.le_refl _) (by simp) ?_; (case hd => rfl); (case hg => rfl); (case hr => first | (go_simp; done) | (go_simp; rfl)); (case hp => exact (Reps.none _ _)); intro v1 w1 ho hb1 hg_ hnew_; have HO := Aside0.mk ho; have HB := Aside0.mk hb1; clear hg_ hnew_ ho hb1) | ((with_reducible refine gate_builtin (b := .append) (xs := #[.tmp 5, .tmp 6]) rfl ?_); at_builtin; refine Kd.R_append_rows Kd.string (w0 := w) w.heap.size rfl (.tmp 5) (.tmp 6) 25 9 (.string ⟨#[]⟩) 16 rfl Try.underlying25 info9 rfl (by decide) (by omega) v1 [] L _ _ _ (fun j => w.heap.size ≤ j) (fun _ => False) rfl rfl ?aO ?aR (fun _ _ h => h) (fun _ h => h.elim) ?aF ?aB ?aS ?aL ?_; (case aO => exact HO.out); (case aR => exact Kd.C_below HC.out HB.out); (case aF => exact fun j hj => Nat.le_trans HB.out.size hj); (case aB => exact HB.out); (case aS => exact HB.out.size); (case aL => have := HL.out; simp; omega); intro v2 w2 ho hb2 hg hat; rw [List.nil_append] at ho; have HO2 := Aside0.mk ho; have HB2 := Aside0.mk hb2; clear ho hb2 hg hat))
    go_ret
    exact ⟨_, rfl, HO2.out, HB2.out⟩
set_option maxHeartbeats 1000000 in
theorem peaks_calls (w : World) (hb : Nat) (ok : Nat → Prop) (k n : Int) (L : List ByteArray) (h : Rg w hb ok k n L) (hl : L.length ≤ 1000000) :
    Calls Try.prog 10 #[.pointer (some ⟨hb, 0, none⟩)] w (Fresh w L) := by
  obtain ⟨h0, v, h1, h2⟩ := h
  obtain ⟨A, c, rfl, hcc, hC⟩ := Kd.R_reads h2
  have c2 : w.cell? ⟨hb, 2, none⟩ = some (.slice A L.length c) := by simp [World.cell?, h1]
  have HC := Aside0.mk hC
  clear h1 h2 hcc hC
  go_enter Try.func10, Try.ntmps10
  go_wp2_with (fail)
  refine (clone_calls w A c L HC.out hl).mono ?_
  rintro e w1 ⟨v1, rfl, hr, hb1⟩
  have HR1 := Aside0.mk hr
  have HB1 := Aside0.mk hb1
  clear hr hb1
  go_wp2_with (fail)
  go_ret
  exact ⟨_, rfl, HR1.out, HB1.out⟩
/-- Is a length wrong? -/
def bad (k : Int) (L : List ByteArray) : Bool := L.any fun s => (s.size : Int) != k
set_option maxHeartbeats 1000000 in
theorem cls_calls (w : World) (kb : Nat) (k : Int) (s : ByteArray) (x : Bool) (hk : w.cell? ⟨kb, 0, none⟩ = some (.int .i64 k)) (hx : ((s.size : Int) != k) = x) :
    Calls Try.prog 22 #[.string s, .pointer (some ⟨kb, 0, none⟩)] w fun e w' => e = .returned (.bool x) ∧ w = w' := by
  cases x
  all_goals
    go_enter Try.func22, Try.ntmps22
    go_wp2
    go_ret
    exact ⟨rfl, rfl⟩
def Idx (w : World) (b : Bool) (e : Ending) (w' : World) : Prop := ∃ r : Int, e = .returned (.int .i64 r) ∧ decide (0 ≤ r) = b ∧ w = w'
set_option maxHeartbeats 2000000 in
set_option maxRecDepth 100000 in
theorem index_calls (w : World) (kb : Nat) (k : Int) (A : Option Addr) (c : Nat) (L : List ByteArray) (hk : w.cell? ⟨kb, 0, none⟩ = some (.int .i64 k)) (hC : Kd.C Kd.string w A L.length L) :
    Calls Try.prog 30 #[.slice A L.length c, .func (.func 22) #[] #[.pointer (some ⟨kb, 0, none⟩)]] w (Idx w (bad k L)) := by
  have HC := Aside0.mk hC
  have HM := Aside0.mk hC.2.1
  have HK := Aside0.mk hk
  clear hC hk
  go_enter Try.func30, Try.ntmps30
  go_wp2_with (fail)
  go_loopg [5, 8] L.length (fun kq v5 v8 w' => ∃ i : Nat, v8 = .int .i64 (i : Int) ∧ Aside0 (i + kq = L.length) ∧ Aside0 (bad k (L.take i) = false) ∧ w' = w)
  case atStart => exact ⟨0, by rfl, ⟨by omega⟩, ⟨by rfl⟩, rfl⟩
  case round =>
    obtain ⟨i, rfl, HI, HBD, rfl⟩ := hrel
    cases gk with
    | zero =>
      have hlt : decide ((i : Int) < (L.length : Int)) = false := decide_eq_false (by have := HI.out; omega)
      have hlt' : decide (i < L.length) = false := decide_eq_false (by have := HI.out; omega)
      go_wp2_with (fail)
      go_ret
      refine ⟨-1, rfl, ?_, rfl⟩
      have e := HBD.out
      rw [List.take_of_length_le (by have := HI.out; omega)] at e
      rw [e]; decide
    | succ k1 =>
      have hil : i < L.length := by have := HI.out; omega
      have hlt : decide ((i : Int) < (L.length : Int)) = true := decide_eq_true (by omega)
      have hlt' : decide (i < L.length) = true := decide_eq_true hil
      have hib : (i : Int) ≤ 9223372036854775806 := by have h1 := HM.out; omega
      obtain ⟨ad, e1, hx⟩ := Kd.at_string HC.out (i : Int) (by omega) (by omega)
      cases e1
      obtain ⟨s, hs⟩ : ∃ s : ByteArray, s = rdOf ByteArray.empty L (i : Int) := ⟨_, rfl⟩
      rw [← hs, Int.toNat_natCast] at hx
      have HS := Aside0.mk (show s = L[i] from by rw [hs]; unfold rdOf; simp [hil])
      clear hs
      have HTK := Aside0.mk (show L.take (i + 1) = L.take i ++ [s] from by rw [List.take_succ_eq_append_getElem hil, HS.out])
      by_cases hz : ((s.size : Int) != k) = true
      · go_wp2_with (fail)
        refine (cls_calls _ kb k s true HK.out hz).mono ?_
        rintro e w1 ⟨rfl, rfl⟩
        go_wp2_with (fail)
        go_ret
        refine ⟨i, rfl, ?_, rfl⟩
        have e1 : bad k L = true := by
          unfold bad; rw [List.any_eq_true]; exact ⟨s, by rw [HS.out]; exact List.getElem_mem _, hz⟩
        rw [e1]; exact decide_eq_true (by omega)
      · have hz' : ((s.size : Int) != k) = false := by simpa using hz
        have HBD1 := Aside0.mk (show bad k (L.take (i + 1)) = false from by
          have := HBD.out
          unfold bad at this ⊢
          rw [HTK.out, List.any_append, this]; simp [hz'])
        clear hz
        go_wp2_with (fail)
        refine (cls_calls _ kb k s false HK.out hz').mono ?_
        rintro e w1 ⟨rfl, rfl⟩
        go_wp2_with (fail)
        go_roundg k1
        case measure => exact Nat.lt_succ_self _
        case rel => exact ⟨i + 1, by go_num, ⟨by have := HI.out; omega⟩, HBD1, rfl⟩
set_option maxHeartbeats 1000000 in
theorem contains_calls (w : World) (kb : Nat) (k : Int) (A : Option Addr) (c : Nat) (L : List ByteArray) (x : Bool) (hx : bad k L = x) (hk : w.cell? ⟨kb, 0, none⟩ = some (.int .i64 k)) (hC : Kd.C Kd.string w A L.length L) :
    Calls Try.prog 21 #[.slice A L.length c, .func (.func 22) #[] #[.pointer (some ⟨kb, 0, none⟩)]] w fun e w' => e = .returned (.bool x) ∧ w = w' := by
  have HC := Aside0.mk hC
  have HK := Aside0.mk hk
  have HX := Aside0.mk hx
  clear hC hk hx
  go_enter Try.func21, Try.ntmps21
  go_wp2_with (fail)
  refine (index_calls w kb k A c L HK.out HC.out).mono ?_
  rintro e w1 ⟨r, rfl, hr, rfl⟩
  rw [HX.out] at hr
  go_wp2_with (fail)
  go_ret
  exact ⟨rfl, rfl⟩
end Go.Proofs.Ytdclafjgfnbibaa.Pk
