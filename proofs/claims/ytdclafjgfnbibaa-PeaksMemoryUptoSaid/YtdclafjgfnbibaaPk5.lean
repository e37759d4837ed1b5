/- Package peaks: Add, Join. No condition beyond those that each theorem names. -/
import Derived.Test.YtdclafjgfnbibaaPk4
import Derived.BigQuiet
import Derived.Deep.QuietTactic
import Derived.Outline
set_option linter.unusedVariables false
set_option linter.unusedSimpArgs false
namespace Go.Proofs.Ytdclafjgfnbibaa.Pk
open Go.RowKit Go.Proofs.Ytdclafjgfnbibaa.MB Go.Proofs.YtdclafjgfnbibaaW.PrintWords Go.Proofs.YtdclafjgfnbibaaW.PrintLast Go.Proofs.YtdclafjgfnbibaaW.PrintMore Go.Proofs.Ytdclafjgfnbibaa.PPeaksRefused Go.Proofs.Ytdclafjgfnbibaa.Ob
/-- What a tree behind all is answered, and what it makes: of Add (h is 0) and of Join. -/
def opE (k : Int) (n : Nat) (h : Int) (s : ByteArray) : Int :=
  if (s.size : Int) ≠ k then 90 else if h < 0 ∨ 40 < h ∨ n % 2 ^ h.toNat ≠ 0 then 41 else if 2 ^ 40 < n + 2 ^ h.toNat then 30 else 0
def opN (k : Int) (n : Nat) (h : Int) (s : ByteArray) : Nat := if opE k n h s = 0 then n + 2 ^ h.toNat else n
def opL (k : Int) (n : Nat) (L : List ByteArray) (h : Int) (s : ByteArray) : List ByteArray := if opE k n h s = 0 then carL k L s (t1 (n / 2 ^ h.toNat)) else L
def opM (k : Int) (n : Nat) (L : List ByteArray) (h : Int) (s : ByteArray) : List ByteArray := if opE k n h s = 0 then mades k L s (t1 (n / 2 ^ h.toNat)) else []
theorem opE_zero {k : Int} {n : Nat} {h : Int} {s : ByteArray} (e : opE k n h s = 0) : (s.size : Int) = k ∧ 0 ≤ h ∧ h ≤ 40 ∧ n % 2 ^ h.toNat = 0 ∧ n + 2 ^ h.toNat ≤ 2 ^ 40 := by
  unfold opE at e
  by_cases h1 : (s.size : Int) = k
  · by_cases h2 : h < 0 ∨ 40 < h ∨ n % 2 ^ h.toNat ≠ 0
    · rw [if_neg (by simpa using h1), if_pos h2] at e; omega
    · by_cases h3 : 2 ^ 40 < n + 2 ^ h.toNat
      · rw [if_neg (by simpa using h1), if_neg h2, if_pos h3] at e; omega
      · refine ⟨h1, ?_, ?_, ?_, by omega⟩
        · exact Int.not_lt.1 (fun h4 => h2 (.inl h4))
        · exact Int.not_lt.1 (fun h4 => h2 (.inr (.inl h4)))
        · exact Classical.byContradiction (fun h4 => h2 (.inr (.inr h4)))
  · rw [if_pos h1] at e; omega
theorem Inv.op {k : Int} {n : Nat} {L : List ByteArray} (hI : Inv k n L) (h : Int) (s : ByteArray) : Inv k (opN k n h s) (opL k n L h s) := by
  unfold opN opL
  by_cases e : opE k n h s = 0
  · rw [if_pos e, if_pos e]
    obtain ⟨h1, h2, h3, h4, h5⟩ := opE_zero e
    exact Inv.next k n L hI h.toNat (by omega) s h1 h4 h5
  · rw [if_neg e, if_neg e]; exact hI
theorem Rg.bound {w : World} {hb : Nat} {ok : Nat → Prop} {k n : Int} {L : List ByteArray} (h : Rg w hb ok k n L) : Rg w hb (fun j => ok j ∧ j < w.heap.size) k n L := by
  have hl := h.lt
  obtain ⟨h0, v, h1, h2⟩ := h
  exact ⟨⟨h0, hl⟩, v, h1, Kd.R_mono (Kd.R_bound h2) (fun j hj => ⟨⟨hj.1.1, hj.2.2.1⟩, hj.1.2⟩)⟩
theorem pow_cast (g : Nat) (hg : g ≤ 40) : IntKind.u64.wrap ((2 : Int) ^ g) = ((2 ^ g : Nat) : Int) ∧ 2 ^ g ≤ 2 ^ 40 := by
  have h1 : 2 ^ g ≤ 2 ^ 40 := Nat.pow_le_pow_right (by omega) hg
  have e2 : ((2 : Int) ^ g) = ((2 ^ g : Nat) : Int) := by push_cast; rfl
  exact ⟨by rw [e2, MB.wrap_u64_cast (2 ^ g) (by omega)], h1⟩
theorem wrap_sum (n g : Nat) (hn : n ≤ 2 ^ 40) (hg : g ≤ 40) : IntKind.u64.wrap ((n : Int) + IntKind.u64.wrap (2 ^ g)) = ((n + 2 ^ g : Nat) : Int) := by
  obtain ⟨h1, h2⟩ := pow_cast g hg
  rw [h1, ← Int.natCast_add, MB.wrap_u64_cast _ (by omega)]
theorem mask_u64 (n g : Nat) (hn : n ≤ 2 ^ 40) (hg : g ≤ 40) : Go.bits .and .u64 (n : Int) (IntKind.u64.wrap (IntKind.u64.wrap (2 ^ g) - 1)) = ((n % 2 ^ g : Nat) : Int) := by
  obtain ⟨h1, h2⟩ := pow_cast g hg
  have hp : 0 < 2 ^ g := Nat.pow_pos (by omega)
  rw [h1, show ((2 ^ g : Nat) : Int) - 1 = ((2 ^ g - 1 : Nat) : Int) from by omega, MB.wrap_u64_cast _ (by omega), bits_and_u64_nat n _ (by omega) (by omega), Nat.and_two_pow_sub_one_eq_mod]
def Added (w : World) (hb : Nat) (ok : Nat → Prop) (k : Int) (n : Nat) (L : List ByteArray) (s : ByteArray) (e : Ending) (w' : World) : Prop :=
  ∃ v, e = .returned (.tuple #[v, .int .i64 (opE k n 0 s)]) ∧ Kd.string.R 9 w' w.heap.size (fun j => w.heap.size ≤ j) v (opM k n L 0 s) ∧
    Rg w' hb (fun j => (ok j ∧ j < w.heap.size) ∨ (w.heap.size ≤ j ∧ some j ≠ v.ownBlock)) k ((opN k n 0 s : Nat) : Int) (opL k n L 0 s) ∧ Kp w w' ok
def Joined (w : World) (hb : Nat) (ok : Nat → Prop) (k : Int) (n : Nat) (L : List ByteArray) (h : Int) (s : ByteArray) (e : Ending) (w' : World) : Prop :=
  e = .returned (.int .i64 (opE k n h s)) ∧ Rg w' hb (fun j => (ok j ∧ j < w.heap.size) ∨ w.heap.size ≤ j) k ((opN k n h s : Nat) : Int) (opL k n L h s) ∧ Kp w w' ok
theorem Added.no {w : World} {hb : Nat} {ok : Nat → Prop} {k : Int} {n : Nat} {L : List ByteArray} {s : ByteArray} {x : Int} (hR : Rg w hb ok k n L) (hx : opE k n 0 s = x) (hx0 : x ≠ 0) :
    Added w hb ok k n L s (.returned (.tuple #[.slice none 0 0, .int .i64 x])) w := by
  refine ⟨.slice none 0 0, by rw [hx], ?_, ?_, Kp.refl _ _⟩
  · unfold opM; rw [hx, if_neg hx0]; exact Kd.R_nil _ _ _ _ _
  · unfold opN opL; rw [hx, if_neg hx0, if_neg hx0]; exact hR.bound.mono (fun j hj => .inl hj)
theorem Joined.no {w : World} {hb : Nat} {ok : Nat → Prop} {k : Int} {n : Nat} {L : List ByteArray} {h : Int} {s : ByteArray} {x : Int} (hR : Rg w hb ok k n L) (hx : opE k n h s = x) (hx0 : x ≠ 0) (m : Nat) :
    Joined w hb ok k n L h s (.returned (.int .i64 x)) (w.drewN m) := by
  refine ⟨by rw [hx], ?_, (Kp.refl _ _).drewN m⟩
  unfold opN opL; rw [hx, if_neg hx0, if_neg hx0]; exact (hR.bound.mono (fun j hj => .inl hj)).step (fun _ _ _ => rfl)
set_option maxHeartbeats 2000000 in
set_option maxRecDepth 100000 in
theorem add_calls (w : World) (hb : Nat) (ok : Nat → Prop) (k : Int) (n : Nat) (L : List ByteArray) (s : ByteArray) (hR : Rg w hb ok k n L) (hI : Inv k n L) :
    Calls Try.prog 12 #[.pointer (some ⟨hb, 0, none⟩), .string s] w (Added w hb ok k n L s) := by
  have HR := Aside0.mk hR
  have HI := Aside0.mk hI
  have hn1 := hI.n1
  obtain ⟨h0, v, h1, h2⟩ := hR
  have c0 : w.cell? ⟨hb, 0, none⟩ = some (.int .i64 k) := by simp [World.cell?, h1]
  have c1 : w.cell? ⟨hb, 1, none⟩ = some (.int .u64 n) := by simp [World.cell?, h1]
  clear h0 h1 h2 hI
  by_cases hk : (s.size : Int) = k
  · have q1 : ((s.size : Int) != k) = false := by simp [hk]
    have HK := Aside0.mk hk
    by_cases hn : n < 2 ^ 40
    · have q2 : decide (1099511627776 ≤ (n : Int)) = false := decide_eq_false (by omega)
      have q3 : decide (1099511627776 ≤ n) = false := decide_eq_false (by omega)
      have HN := Aside0.mk hn
      have hc : Calls Try.prog 24 #[.pointer (some ⟨hb, 0, none⟩), .int .i64 0, .string s] w (Carried w hb ok k n 0 L s) := carry_calls w hb ok k n 0 L s HR.out HI.out (by omega) hk (by omega) (Nat.mod_one _)
      have HC := Aside0.mk hc
      have e0 : opE k n 0 s = 0 := by
        unfold opE
        rw [if_neg (by simpa using hk), if_neg (by simp [Nat.mod_one]), if_neg (by simp; omega)]
      have HE := Aside0.mk e0
      clear hk hn hc hn1 e0
      go_enter Try.func12, Try.ntmps12
      go_wp2_with (fail)
      refine HC.out.mono ?_
      rintro e w1 ⟨v1, rfl, hm, hr, hkp⟩
      have HM := Aside0.mk hm
      have HR1 := Aside0.mk hr
      have HKP := Aside0.mk hkp
      clear hm hr hkp
      go_wp2_with (fail)
      go_ret2
      have e1 := HE.out
      refine ⟨v1, by rw [e1]; rfl, ?_, ?_, HKP.out⟩
      · unfold opM; rw [if_pos e1]; exact HM.out
      · unfold opN opL; rw [if_pos e1, if_pos e1]; exact HR1.out
    · have q2 : decide (1099511627776 ≤ (n : Int)) = true := decide_eq_true (by omega)
      have q3 : decide (1099511627776 ≤ n) = true := decide_eq_true (by omega)
      have e0 : opE k n 0 s = 30 := by
        unfold opE
        rw [if_neg (by simpa using hk), if_neg (by simp [Nat.mod_one]), if_pos (by simp; omega)]
      have HE := Aside0.mk e0
      clear hk hn hn1 e0
      go_enter Try.func12, Try.ntmps12
      go_wp2_with (fail)
      go_ret2
      exact Added.no HR.out HE.out (by omega)
  · have q1 : ((s.size : Int) != k) = true := by simpa using hk
    have e0 : opE k n 0 s = 90 := by unfold opE; rw [if_pos hk]
    have HE := Aside0.mk e0
    clear hk hn1 e0
    go_enter Try.func12, Try.ntmps12
    go_wp2_with (fail)
    go_ret2
    exact Added.no HR.out HE.out (by omega)
set_option maxHeartbeats 2000000 in
set_option maxRecDepth 100000 in
theorem join_calls (w : World) (hb : Nat) (ok : Nat → Prop) (k : Int) (n : Nat) (L : List ByteArray) (h : Int) (s : ByteArray) (hR : Rg w hb ok k n L) (hI : Inv k n L) :
    Calls Try.prog 25 #[.pointer (some ⟨hb, 0, none⟩), .int .i64 h, .string s] w (Joined w hb ok k n L h s) := by
  have HR := Aside0.mk hR
  have HI := Aside0.mk hI
  have hn1 := hI.n1
  obtain ⟨h0, v, h1, h2⟩ := hR
  have c0 : w.cell? ⟨hb, 0, none⟩ = some (.int .i64 k) := by simp [World.cell?, h1]
  have c1 : w.cell? ⟨hb, 1, none⟩ = some (.int .u64 n) := by simp [World.cell?, h1]
  clear h0 h1 h2 hI
  by_cases hk : (s.size : Int) = k
  · have q1 : ((s.size : Int) != k) = false := by simp [hk]
    by_cases hneg : h < 0
    · have d1 : decide (h < 0) = true := decide_eq_true hneg
      have e0 : opE k n h s = 41 := by unfold opE; rw [if_neg (by simpa using hk), if_pos (.inl hneg)]
      have HE := Aside0.mk e0
      clear hk hn1 e0
      go_enter Try.func25, Try.ntmps25
      go_wp2_with (fail)
      go_quiet (fail)
      go_wp2_with (fail)
      go_ret
      exact Joined.no HR.out HE.out (by omega) _
    · have d1 : decide (h < 0) = false := decide_eq_false hneg
      by_cases hbig : 40 < h
      · have d2 : decide (40 < h) = true := decide_eq_true hbig
        have e0 : opE k n h s = 41 := by unfold opE; rw [if_neg (by simpa using hk), if_pos (.inr (.inl hbig))]
        have HE := Aside0.mk e0
        clear hk hn1 e0
        go_enter Try.func25, Try.ntmps25
        go_wp2_with (fail)
        go_quiet (fail)
        go_wp2_with (fail)
        go_ret
        exact Joined.no HR.out HE.out (by omega) _
      · have d2 : decide (40 < h) = false := decide_eq_false hbig
        obtain ⟨g, rfl⟩ : ∃ g : Nat, h = g := ⟨h.toNat, by omega⟩
        have hg : g ≤ 40 := by omega
        clear hneg hbig
        have hm := mask_u64 n g (by omega) hg
        have hw := wrap_sum n g (by omega) hg
        by_cases hmod : n % 2 ^ g = 0
        · have m1 : (Go.bits .and .u64 (n : Int) (IntKind.u64.wrap (IntKind.u64.wrap (2 ^ g) - 1)) != 0) = false := by rw [hm, hmod]; rfl
          by_cases hov : 2 ^ 40 < n + 2 ^ g
          · have m2 : decide (1099511627776 < IntKind.u64.wrap ((n : Int) + IntKind.u64.wrap (2 ^ g))) = true := by rw [hw]; exact decide_eq_true (by omega)
            have e0 : opE k n (g : Int) s = 30 := by
              unfold opE
              rw [if_neg (by simpa using hk), if_neg (by simp [hmod]; omega), if_pos (by simpa using hov)]
            have HE := Aside0.mk e0
            clear hk hn1 e0 hm hw hmod hov
            go_enter Try.func25, Try.ntmps25
            go_wp2_with (fail)
            go_quiet (fail)
            go_wp2_with (fail)
            go_quiet (fail)
            go_wp2_with (fail)
            go_ret
            rw [World.drewN_drewN]
            exact Joined.no HR.out HE.out (by omega) _
          · have m2 : decide (1099511627776 < IntKind.u64.wrap ((n : Int) + IntKind.u64.wrap (2 ^ g))) = false := by rw [hw]; exact decide_eq_false (by omega)
            have e0 : opE k n (g : Int) s = 0 := by
              unfold opE
              rw [if_neg (by simpa using hk), if_neg (by simp [hmod]; omega), if_neg (by simpa using hov)]
            have HE := Aside0.mk e0
            have HC := Aside0.mk (fun (W : World) (hW : Rg W hb ok k n L) => carry_calls W hb ok k n g L s hW HI.out hg hk (by omega) hmod)
            clear hk hn1 e0 hm hw hmod hov
            go_enter Try.func25, Try.ntmps25
            go_wp2_with (fail)
            go_quiet (fail)
            go_wp2_with (fail)
            go_quiet (fail)
            go_wp2_with (fail)
            refine (HC.out (w.drewN _) (HR.out.step (fun _ _ _ => rfl))).mono ?_
            rintro e w1 ⟨v1, rfl, hm, hr, hkp⟩
            have HR1 := Aside0.mk hr
            have HKP := Aside0.mk hkp
            clear hm hr hkp
            go_wp2_with (fail)
            go_ret
            have e1 := HE.out
            refine ⟨by rw [e1]; rfl, ?_, ?_⟩
            · unfold opN opL; rw [if_pos e1, if_pos e1, Int.toNat_natCast]; exact HR1.out.mono (fun j hj => hj.imp id (fun h => h.1))
            · have q := HKP.out; exact ⟨q.os, q.tape, q.output, q.size, q.keep⟩
        · have m1 : (Go.bits .and .u64 (n : Int) (IntKind.u64.wrap (IntKind.u64.wrap (2 ^ g) - 1)) != 0) = true := by rw [hm]; simpa using (by omega : ((n % 2 ^ g : Nat) : Int) ≠ 0)
          have e0 : opE k n (g : Int) s = 41 := by
            unfold opE
            rw [if_neg (by simpa using hk), if_pos (.inr (.inr (by simpa using hmod)))]
          have HE := Aside0.mk e0
          clear hk hn1 e0 hm hw hmod
          go_enter Try.func25, Try.ntmps25
          go_wp2_with (fail)
          go_quiet (fail)
          go_wp2_with (fail)
          go_ret
          exact Joined.no HR.out HE.out (by omega) _
  · have q1 : ((s.size : Int) != k) = true := by simpa using hk
    have e0 : opE k n h s = 90 := by unfold opE; rw [if_pos hk]
    have HE := Aside0.mk e0
    clear hk hn1 e0
    go_enter Try.func25, Try.ntmps25
    go_wp2_with (fail)
    go_ret
    exact Joined.no HR.out HE.out (by omega) 0
end Go.Proofs.Ytdclafjgfnbibaa.Pk
