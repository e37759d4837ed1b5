/- Package peaks: From, New. No condition beyond those that each theorem names. -/
import Derived.Test.YtdclafjgfnbibaaPk3
import Derived.Outline
set_option linter.unusedVariables false
set_option linter.unusedSimpArgs false
namespace Go.Proofs.Ytdclafjgfnbibaa.Pk
open Go.RowKit Go.Proofs.Ytdclafjgfnbibaa.MB Go.Proofs.YtdclafjgfnbibaaW.PrintWords Go.Proofs.YtdclafjgfnbibaaW.PrintLast Go.Proofs.YtdclafjgfnbibaaW.PrintMore Go.Proofs.Ytdclafjgfnbibaa.PPeaksRefused Go.Proofs.Ytdclafjgfnbibaa.Ob
/-- A new range. -/
def Made (w : World) (k n : Int) (L : List ByteArray) (e : Ending) (w' : World) : Prop :=
  ∃ hb, e = .returned (.tuple #[.pointer (some ⟨hb, 0, none⟩), .int .i64 0]) ∧ w.heap.size ≤ hb ∧ Rg w' hb (fun j => w.heap.size ≤ j) k n L ∧ Below w.heap.size w w'
set_option maxHeartbeats 4000000 in
set_option maxRecDepth 100000 in
theorem from_ok (w : World) (k : Int) (n : Nat) (A : Option Addr) (c : Nat) (L : List ByteArray) (hI : Inv k n L) (hC : Kd.C Kd.string w A L.length L) :
    Calls Try.prog 9 #[.int .i64 k, .int .u64 n, .slice A L.length c] w (Made w k n L) := by
  have hn1 := hI.n1
  have hck : hash_Check.f k = some 0 := by rw [hash_Check.is, if_pos ⟨hI.k1, hI.k2⟩]
  have hon := num_Ones.is n 65 (by omega) (by omega)
  have hbd : bad k L = false := by
    unfold bad; rw [List.any_eq_false]; intro s hs
    have := hI.sz s hs; simp [this]
  have HCK := Aside0.mk hck
  have HON := Aside0.mk hon
  have HBD := Aside0.mk hbd
  have HC := Aside0.mk hC
  have HLE := Aside0.mk hI.len
  have HOL := Aside0.mk (ones_le n)
  have hn : (n : Int) ≤ 1099511627776 := by omega
  have hq1 : ((L.length : Int) != (ones n : Int)) = false := by rw [hI.len]; simp
  have hq2 : (L.length != ones n) = false := by rw [hI.len]; simp
  clear hck hon hbd hC hn1 hI
  go_enter Try.func9, Try.ntmps9
  go_wp2_with (fail)
  refine (hash_Check.calls k 0 _ HCK.out).mono ?_
  rintro e w1 ⟨rfl, hd1⟩
  have HB1 := Aside0.mk (below_weaken (below_alloc (Below.refl _ w) (.cells #[.int .i64 k] 3)) (by simp) hd1.below)
  have HK1 := Aside0.mk (show w1.heap[w.heap.size]? = some (.cells #[.int .i64 k] 3 (0, 0)) from blk_below (blk_new _ _) hd1.below)
  clear hd1
  go_wp2_with (fail)
  refine (num_Ones.calls 65 (n : Int) _ _ HON.out).mono ?_
  rintro e w2 ⟨rfl, hd2⟩
  have HB2 := Aside0.mk (below_weaken HB1.out HB1.out.size hd2.below)
  have HK2 := Aside0.mk (blk_below HK1.out hd2.below)
  clear hd2
  have hk2 : w2.cell? ⟨w.heap.size, 0, none⟩ = some (.int .i64 k) := cell_of_one HK2.out
  go_wp2_with (fail)
  refine (contains_calls w2 w.heap.size k A c L false HBD.out hk2 (Kd.C_below HC.out HB2.out)).mono ?_
  rintro e w3 ⟨rfl, rfl⟩
  go_wp2_with (fail)
  go_region_held3 (fun w' => w'.cell? ⟨w.heap.size, 0, none⟩ = some (.int .i64 k)) (first | exact hk2 | exact e0 | go_keep)
    (first | (go_at_call 23; refine (clone_calls _ A c L (Kd.C_drew (Kd.C_below HC.out HB2.out)) (by have := HLE.out; have := HOL.out; omega)).mono ?_; rintro e w4 ⟨v, rfl, hr, hb4⟩; obtain ⟨A4, N4, c4, e4⟩ : ∃ A1 N1 c1, v = .slice A1 N1 c1 := (Kd.R_slice hr).elim (fun A1 h => h.elim (fun c1 h => ⟨A1, _, c1, h⟩)); subst e4; have e0 : w4.cell? ⟨w.heap.size, 0, none⟩ = some (.int .i64 k) := (hb4.cell (World.block_lt_of_cell? _ _ hk2)).trans hk2; have HR4 := Aside0.mk hr; have HB4 := Aside0.mk hb4; clear hr hb4))
  go_wp2_with (fail)
  go_ret2
  have hs2 := HB2.out.size
  have hs4 := HB4.out.size
  have hs4' : w2.heap.size ≤ w4.heap.size := hs4
  refine ⟨w4.heap.size, rfl, by omega, ⟨by omega, .slice A4 N4 c4, blk_new _ _, ?_⟩, below_alloc (below_weaken (below_drew HB2.out) HB2.out.size HB4.out) _⟩
  refine Kd.R_alloc (Kd.R_lower (Kd.R_mono (Kd.R_bound HR4.out) (fun j hj => ?_)) (Nat.zero_le _)) _
  have h1 : w2.heap.size ≤ j := hj.1
  exact ⟨by omega, by have := hj.2.2.1; omega⟩
set_option maxHeartbeats 1000000 in
theorem new_ok (w : World) (k : Int) (h1 : 1 ≤ k) (h2 : k ≤ 32) :
    Calls Try.prog 15 #[.int .i64 k] w (Made w k (0 : Nat) []) := by
  have hI : Inv k 0 [] := ⟨h1, h2, by omega, by rw [MB.ones_zero]; rfl, fun s hs => by cases hs⟩
  have HI := Aside0.mk hI
  clear hI
  go_enter Try.func15, Try.ntmps15
  go_wp2_with (fail)
  refine (from_ok w k 0 none 0 [] HI.out (Kd.C_nil _ _)).mono ?_
  rintro e w1 ⟨hb, rfl, hle, hr, hb1⟩
  have HR := Aside0.mk hr
  have HL := Aside0.mk hle
  have HB := Aside0.mk hb1
  clear hr hle hb1
  go_wp2_with (fail)
  go_ret2
  exact ⟨hb, rfl, HL.out, HR.out, HB.out⟩
/-- A strength that may not be. -/
theorem from_strength (w : World) (k n : Int) (A : Option Addr) (l c : Nat) (h : ¬ (1 ≤ k ∧ k ≤ 32)) :
    Calls Try.prog 9 #[.int .i64 k, .int .u64 n, .slice A l c] w fun e w' => e = .returned (.tuple #[.pointer none, .int .i64 70]) ∧ Below w.heap.size w w' := by
  have hck : hash_Check.f k = some 70 := by rw [hash_Check.is, if_neg h]
  have HCK := Aside0.mk hck
  clear hck
  go_enter Try.func9, Try.ntmps9
  go_wp2_with (fail)
  refine (hash_Check.calls k 70 _ HCK.out).mono ?_
  rintro e w1 ⟨rfl, hd1⟩
  have HB1 := Aside0.mk (below_weaken (below_alloc (Below.refl _ w) (.cells #[.int .i64 k] 3)) (by simp) hd1.below)
  clear hd1
  go_wp2_with (fail)
  go_ret2
  exact ⟨rfl, HB1.out⟩
theorem new_strength (w : World) (k : Int) (h : ¬ (1 ≤ k ∧ k ≤ 32)) :
    Calls Try.prog 15 #[.int .i64 k] w fun e w' => e = .returned (.tuple #[.pointer none, .int .i64 70]) ∧ Below w.heap.size w w' := by
  go_enter Try.func15, Try.ntmps15
  go_wp2_with (fail)
  refine (from_strength w k 0 none 0 0 h).mono ?_
  rintro e w1 ⟨rfl, hb1⟩
  have HB := Aside0.mk hb1
  clear hb1
  go_wp2_with (fail)
  go_ret2
  exact ⟨rfl, HB.out⟩
end Go.Proofs.Ytdclafjgfnbibaa.Pk
