/- Plain facts about the row of the nodes of a tree over 2^40 items (left tree, right tree, node): the place of a block, and the block of a place. No condition, no program. -/
import Derived.Test.YtcghicmdphfodaaDoorMB
namespace Go.Proofs.YtcghicmdphfodaaDoor.MB

theorem onesF_le_self : ∀ i n, onesF i n ≤ n
  | 0, _ => Nat.zero_le _
  | i + 1, n => by have := onesF_le_self i (n / 2); rw [onesF]; omega
theorem ones_le_self (n : Nat) : ones n ≤ n := onesF_le_self 64 n
theorem ones_join (d K r : Nat) (hr : r < 2 ^ d) (h : K * 2 ^ d + r < 2 ^ 64) : ones (K * 2 ^ d + r) = ones K + ones r := by
  have hp := two_pow_pos d
  have hK : K < 2 ^ 64 := by
    have : K * 1 ≤ K * 2 ^ d := Nat.mul_le_mul_left K hp
    omega
  have hrr : r < 2 ^ 64 := by omega
  have h1 := onesF_add d 64 K r hr
  have hb : K * 2 ^ d + r < 2 ^ (d + 64) := by
    have : K * 2 ^ d + r < 2 ^ 64 * 2 ^ d := by
      have : 2 ^ 64 * 1 ≤ 2 ^ 64 * 2 ^ d := Nat.mul_le_mul_left _ hp
      omega
    rw [Nat.pow_add, Nat.mul_comm (2 ^ d) (2 ^ 64)]; exact this
  rw [onesF_eq' (d + 64) _ h (by omega)] at h1
  have h2 : onesF d r = ones r := by
    by_cases e : d ≤ 64
    · exact onesF_eq d r hr e
    · exact onesF_eq' d r hrr (by omega)
  rw [h2] at h1; exact h1
theorem ones_double (k : Nat) (h : 2 * k < 2 ^ 64) : ones (2 * k) = ones k := by
  have e : 2 * k = k * 2 ^ 1 + 0 := by omega
  rw [e, ones_join 1 k 0 (by omega) (by omega)]
  have h0 := ones_zero
  generalize ones 0 = z at *
  omega
theorem ones_one : ones 1 = 1 := by decide
theorem ones_double1 (k : Nat) (h : 2 * k + 1 < 2 ^ 64) : ones (2 * k + 1) = ones k + 1 := by
  have e : 2 * k + 1 = k * 2 ^ 1 + 1 := by omega
  rw [e, ones_join 1 k 1 (by omega) (by omega)]
  have h0 := ones_one
  generalize ones 1 = z at *
  omega
theorem onesF_full : ∀ (d j : Nat), d ≤ j → onesF j (2 ^ d - 1) = d
  | 0, j, _ => by rw [show 2 ^ 0 - 1 = 0 from rfl, onesF_zero]
  | d + 1, 0, h => by omega
  | d + 1, j + 1, h => by
    have hp := two_pow_pos d
    rw [onesF, show (2 ^ (d + 1) - 1) % 2 = 1 from by rw [Nat.pow_succ]; omega, show (2 ^ (d + 1) - 1) / 2 = 2 ^ d - 1 from by rw [Nat.pow_succ]; omega, onesF_full d j (by omega)]; omega
theorem ones_full (d : Nat) (h : d ≤ 64) : ones (2 ^ d - 1) = d := onesF_full d 64 h

/-- The place of the block (h, k). -/
def pl (h k : Nat) : Nat := 2 * 2 ^ h * (k + 1) - 2 - ones k
theorem pl_le (h k : Nat) : pl h k + 2 + ones k = 2 * 2 ^ h * (k + 1) := by
  unfold pl
  have h1 := ones_le_self k
  have h2 : 2 * 1 * (k + 1) ≤ 2 * 2 ^ h * (k + 1) := Nat.mul_le_mul_right _ (Nat.mul_le_mul_left _ (two_pow_pos h))
  omega
/-- Blocks that may be. -/
def May (h k : Nat) : Prop := h ≤ 40 ∧ k * 2 ^ h + 2 ^ h ≤ 2 ^ 40
theorem may_of {h k : Nat} (hh : h ≤ 40) (hk : k < 2 ^ (40 - h)) : May h k := by
  refine ⟨hh, ?_⟩
  have e : 2 ^ 40 = 2 ^ (40 - h) * 2 ^ h := by rw [← Nat.pow_add]; congr 1; omega
  rw [e]
  have : (k + 1) * 2 ^ h ≤ 2 ^ (40 - h) * 2 ^ h := Nat.mul_le_mul_right _ hk
  rw [Nat.add_mul, Nat.one_mul] at this; exact this
theorem may_lt {h k : Nat} (m : May h k) : k < 2 ^ (40 - h) := by
  obtain ⟨hh, hk⟩ := m
  have e : 2 ^ 40 = 2 ^ (40 - h) * 2 ^ h := by rw [← Nat.pow_add]; congr 1; omega
  rw [e] at hk
  have : (k + 1) * 2 ^ h ≤ 2 ^ (40 - h) * 2 ^ h := by rw [Nat.add_mul, Nat.one_mul]; exact hk
  have := Nat.le_of_mul_le_mul_right this (two_pow_pos h); omega
theorem May.lt {h k : Nat} (m : May h k) : k < 2 ^ 40 := by
  have := may_lt m
  have : 2 ^ (40 - h) ≤ 2 ^ 40 := Nat.pow_le_pow_right (by omega) (by omega)
  omega
theorem May.pow {h k : Nat} (m : May h k) : 2 ^ h ≤ 2 ^ 40 := by have := m.2; omega
theorem May.left {h k : Nat} (m : May (h + 1) k) : May h (2 * k) := by
  obtain ⟨a, b⟩ := m
  refine ⟨by omega, ?_⟩
  have e : 2 ^ (h + 1) = 2 * 2 ^ h := by rw [Nat.pow_succ, Nat.mul_comm]
  rw [e] at b
  have : k * (2 * 2 ^ h) = 2 * k * 2 ^ h := by rw [← Nat.mul_assoc, Nat.mul_comm k 2]
  rw [this] at b; omega
theorem May.right {h k : Nat} (m : May (h + 1) k) : May h (2 * k + 1) := by
  obtain ⟨a, b⟩ := m
  refine ⟨by omega, ?_⟩
  have e : 2 ^ (h + 1) = 2 * 2 ^ h := by rw [Nat.pow_succ, Nat.mul_comm]
  rw [e] at b
  have : k * (2 * 2 ^ h) = 2 * k * 2 ^ h := by rw [← Nat.mul_assoc, Nat.mul_comm k 2]
  rw [this] at b
  rw [Nat.add_mul]; omega
theorem May.up {h k : Nat} (m : May h k) (hh : h < 40) : May (h + 1) (k / 2) := by
  refine may_of (by omega) ?_
  have := may_lt m
  rw [show 40 - h = (40 - (h + 1)) + 1 from by omega, Nat.pow_succ] at this
  omega
theorem May.top {k : Nat} (m : May 40 k) : k = 0 := by have := may_lt m; simpa using this
theorem May.sib {h k : Nat} (m : May h k) (hh : h < 40) : May h (if k % 2 = 0 then k + 1 else k - 1) := by
  have u := m.up hh
  by_cases e : k % 2 = 0
  · rw [if_pos e]; have := u.right; rwa [show 2 * (k / 2) + 1 = k + 1 from by omega] at this
  · rw [if_neg e]; have := u.left; rwa [show 2 * (k / 2) = k - 1 from by omega] at this

theorem pl_right (h k : Nat) (m : May (h + 1) k) : pl h (2 * k + 1) + 1 = pl (h + 1) k := by
  have h1 := pl_le h (2 * k + 1)
  have h2 := pl_le (h + 1) k
  have hl := m.right.lt
  rw [ones_double1 k (by omega)] at h1
  have e : 2 * 2 ^ h * (2 * k + 1 + 1) = 2 * 2 ^ (h + 1) * (k + 1) := by
    rw [Nat.pow_succ, show 2 * k + 1 + 1 = 2 * (k + 1) from by omega, ← Nat.mul_assoc, show 2 * 2 ^ h * 2 = 2 * (2 ^ h * 2) from by rw [Nat.mul_assoc]]
  omega
theorem pl_left (h k : Nat) (m : May (h + 1) k) : pl h (2 * k) + 2 ^ (h + 1) = pl (h + 1) k := by
  have h1 := pl_le h (2 * k)
  have h2 := pl_le (h + 1) k
  have hl := m.left.lt
  rw [ones_double k (by omega)] at h1
  have e : 2 * 2 ^ h * (2 * k + 1) + 2 ^ (h + 1) = 2 * 2 ^ (h + 1) * (k + 1) := by
    have e1 : 2 ^ (h + 1) = 2 * 2 ^ h := by rw [Nat.pow_succ, Nat.mul_comm]
    rw [e1]
    generalize 2 ^ h = p
    have a1 : 2 * p * (2 * k + 1) = 4 * (p * k) + 2 * p := by
      rw [Nat.mul_add, Nat.mul_one, Nat.mul_comm 2 p, Nat.mul_assoc, ← Nat.mul_assoc 2 2 k]
      rw [show p * (2 * 2 * k) = 4 * (p * k) from by rw [show 2 * 2 = 4 from rfl, Nat.mul_left_comm]]
    have a2 : 2 * (2 * p) * (k + 1) = 4 * (p * k) + 4 * p := by
      rw [← Nat.mul_assoc, show 2 * 2 = 4 from rfl, Nat.mul_add, Nat.mul_one, Nat.mul_assoc]
    omega
  omega
theorem pl_le_max {h k : Nat} (m : May h k) : pl h k ≤ 2199023255550 := by
  have h1 := pl_le h k
  have h2 := m.2
  have : 2 * 2 ^ h * (k + 1) = 2 * (k * 2 ^ h + 2 ^ h) := by rw [Nat.mul_assoc, Nat.mul_add, Nat.mul_one, Nat.mul_comm (2 ^ h) k]
  omega
theorem pl_top : pl 40 0 = 2199023255550 := rfl
/-- The first place of a block's tree is the leaf of its first item. -/
theorem pl_first (h k : Nat) (m : May h k) : pl 0 (k * 2 ^ h) + (2 * 2 ^ h - 2) = pl h k := by
  have h1 := pl_le 0 (k * 2 ^ h)
  have h2 := pl_le h k
  have hm := m.2
  have hp := two_pow_pos h
  have hj := ones_join h k 0 hp (by omega)
  rw [Nat.add_zero, ones_zero] at hj
  have : 2 * 2 ^ h * (k + 1) = 2 * (k * 2 ^ h) + 2 * 2 ^ h := by rw [Nat.mul_assoc, Nat.mul_add, Nat.mul_one, Nat.mul_comm (2 ^ h) k]; omega
  rw [Nat.pow_zero] at h1
  omega
/-- Below a block: its tree's places. -/
theorem pl_below (h d K r : Nat) (hr : r < 2 ^ d) (m : May (h + d) K) : pl h (K * 2 ^ d + r) ≤ pl (h + d) K ∧ (0 < d → pl h (K * 2 ^ d + r) < pl (h + d) K) ∧ pl (h + d) K ≤ pl h (K * 2 ^ d + r) + (2 * 2 ^ (h + d) - 2) := by
  have h1 := pl_le h (K * 2 ^ d + r)
  have h2 := pl_le (h + d) K
  have hm := m.2
  have hp := two_pow_pos h
  have hpd := two_pow_pos d
  have e0 : 2 ^ (h + d) = 2 ^ h * 2 ^ d := Nat.pow_add 2 h d
  have hKr : K * 2 ^ d + r < 2 ^ 64 := by
    have : 1 * 2 ^ d ≤ 2 ^ h * 2 ^ d := Nat.mul_le_mul_right _ hp
    have : K * (1 * 2 ^ d) ≤ K * (2 ^ h * 2 ^ d) := Nat.mul_le_mul_left _ this
    rw [Nat.one_mul] at this
    rw [e0] at hm
    omega
  rw [ones_join d K r hr hKr] at h1
  have hor := ones_le_self r
  have e1 : 2 * 2 ^ (h + d) * (K + 1) = 2 * 2 ^ h * (K * 2 ^ d + r + 1) + 2 * 2 ^ h * (2 ^ d - r - 1) := by
    rw [← Nat.mul_add, show K * 2 ^ d + r + 1 + (2 ^ d - r - 1) = (K + 1) * 2 ^ d from by rw [Nat.add_mul]; omega, e0, Nat.mul_comm (K + 1) (2 ^ d), ← Nat.mul_assoc, ← Nat.mul_assoc]
  have e2 : 2 * 2 ^ h * (2 ^ d - r - 1) + 2 * 2 ^ h * (r + 1) = 2 * 2 ^ (h + d) := by
    rw [← Nat.mul_add, show 2 ^ d - r - 1 + (r + 1) = 2 ^ d from by omega, e0, Nat.mul_assoc]
  have e3 : 2 * 1 * (r + 1) ≤ 2 * 2 ^ h * (r + 1) := Nat.mul_le_mul_right _ (Nat.mul_le_mul_left _ hp)
  have e4 : 0 < 2 ^ d - r - 1 → 0 < 2 * 2 ^ h * (2 ^ d - r - 1) := fun hx => Nat.mul_pos (Nat.mul_pos (by omega) hp) hx
  refine ⟨by omega, fun hd => ?_, by omega⟩
  by_cases e : r = 2 ^ d - 1
  · have : ones r = d ∨ 64 < d := by
      by_cases e5 : d ≤ 64
      · left; rw [e, ones_full d e5]
      · right; omega
    rcases this with h5 | h5
    · omega
    · have : 2 ^ 64 ≤ 2 ^ d := Nat.pow_le_pow_right (by omega) (by omega)
      have := ones_pos r (by omega) (by omega)
      omega
  · have := e4 (by omega); omega
/-- Every place is a block's. -/
theorem place_block (p : Nat) : ∀ (H K : Nat), May H K → p ≤ pl H K → pl H K ≤ p + (2 * 2 ^ H - 2) → ∃ h k, May h k ∧ pl h k = p := by
  intro H
  induction H with
  | zero =>
    intro K m h1 h2
    rw [Nat.pow_zero] at h2
    exact ⟨0, K, m, by omega⟩
  | succ H ih =>
    intro K m h1 h2
    have hr := pl_right H K m
    have hl := pl_left H K m
    have e : 2 ^ (H + 1) = 2 * 2 ^ H := by rw [Nat.pow_succ, Nat.mul_comm]
    have hp := two_pow_pos H
    by_cases e1 : p = pl (H + 1) K
    · exact ⟨H + 1, K, m, e1.symm⟩
    · by_cases e2 : p ≤ pl H (2 * K)
      · exact ih (2 * K) m.left e2 (by omega)
      · exact ih (2 * K + 1) m.right (by omega) (by omega)
theorem block_at (p : Nat) (h : p ≤ 2199023255550) : ∃ h k, May h k ∧ pl h k = p :=
  place_block p 40 0 ⟨by omega, by omega⟩ (by rw [pl_top]; omega) (by rw [pl_top]; omega)

/-! ### the mountains of n -/
/-- Those of heights below d, from the highest. -/
def mtS (n : Nat) : Nat → List (Nat × Nat)
  | 0 => []
  | d + 1 => (if bit n d = 1 then [(d, n / 2 ^ d - 1)] else []) ++ mtS n d
/-- Those of heights a to a + b - 1. -/
def mtT (n a : Nat) : Nat → List (Nat × Nat)
  | 0 => []
  | b + 1 => (if bit n (a + b) = 1 then [(a + b, n / 2 ^ (a + b) - 1)] else []) ++ mtT n a b
theorem mtS_split (n a : Nat) : ∀ b, mtS n (a + b) = mtT n a b ++ mtS n a
  | 0 => rfl
  | b + 1 => by
    show (if bit n (a + b) = 1 then [(a + b, n / 2 ^ (a + b) - 1)] else []) ++ mtS n (a + b) = _
    rw [mtS_split n a b, mtT, List.append_assoc]
theorem mtT_congr (n n' a : Nat) (h : n / 2 ^ a = n' / 2 ^ a) : ∀ b, mtT n a b = mtT n' a b
  | 0 => rfl
  | b + 1 => by
    have e : n / 2 ^ (a + b) = n' / 2 ^ (a + b) := by rw [Nat.pow_add, ← Nat.div_div_eq_div_mul, h, Nat.div_div_eq_div_mul]
    rw [mtT, mtT, mtT_congr n n' a h b]
    unfold bit
    rw [e]
theorem mtS_length (n : Nat) : ∀ d, (mtS n d).length = onesF d n
  | 0 => rfl
  | d + 1 => by
    have hb := bit_lt n d
    rw [mtS, List.length_append, mtS_length n d, onesF_snoc]
    by_cases e : bit n d = 1
    · rw [if_pos e, e]; simp; omega
    · rw [if_neg e]
      have : bit n d = 0 := by omega
      rw [this]; simp
theorem mtS_le (n d : Nat) : (mtS n d).length ≤ d := by rw [mtS_length]; exact onesF_le d n
/-- What the mountains of heights from d on have: places. -/
def upTo (n d : Nat) : Nat := 2 * (n / 2 ^ d * 2 ^ d) - ones (n / 2 ^ d)
theorem ones_mul_le (q d : Nat) : ones q ≤ q * 2 ^ d := by
  have h1 := ones_le_self q
  have h2 : q * 1 ≤ q * 2 ^ d := Nat.mul_le_mul_left _ (two_pow_pos d)
  omega
theorem half_up (n j : Nat) : n / 2 ^ j = 2 * (n / 2 ^ (j + 1)) + bit n j := by
  unfold bit
  rw [Nat.pow_succ, ← Nat.div_div_eq_div_mul]; omega
theorem upTo_step1 (n d : Nat) (hn : n < 2 ^ 63) (h : bit n d = 1) : upTo n d + 1 = upTo n (d + 1) + 2 * 2 ^ d ∧ pl d (n / 2 ^ d - 1) + 1 = upTo n d := by
  have hu := half_up n d
  rw [h] at hu
  have hq : n / 2 ^ (d + 1) < 2 ^ 63 := Nat.lt_of_le_of_lt (Nat.div_le_self _ _) hn
  have hpl := pl_le d (n / 2 ^ d - 1)
  have hm1 := ones_mul_le (n / 2 ^ (d + 1)) (d + 1)
  have ep : 2 ^ (d + 1) = 2 * 2 ^ d := by rw [Nat.pow_succ, Nat.mul_comm]
  have hp := two_pow_pos d
  unfold upTo
  rw [ep] at hm1 hq ⊢
  rw [ep] at hu
  rw [hu] at hpl ⊢
  generalize n / (2 * 2 ^ d) = q at *
  have hd1 := ones_double1 q (by omega)
  have hd0 := ones_double q (by omega)
  rw [show 2 * q + 1 - 1 = 2 * q from by omega, hd0] at hpl
  rw [hd1, show 2 * q + 1 - 1 = 2 * q from by omega]
  generalize 2 ^ d = p at *
  have a1 : (2 * q + 1) * p = 2 * (q * p) + p := by rw [Nat.add_mul, Nat.one_mul, Nat.mul_assoc]
  have a2 : q * (2 * p) = 2 * (q * p) := by rw [Nat.mul_left_comm]
  have a3 : 2 * p * (2 * q + 1) = 4 * (q * p) + 2 * p := by
    rw [Nat.mul_add, Nat.mul_one, Nat.mul_comm 2 p, Nat.mul_assoc, ← Nat.mul_assoc 2 2 q]
    rw [show p * (2 * 2 * q) = 4 * (q * p) from by rw [show 2 * 2 = 4 from rfl, Nat.mul_comm p, Nat.mul_assoc]]
  rw [a2] at hm1
  rw [a1, a2]
  rw [a3] at hpl
  omega
theorem upTo_step0 (n d : Nat) (hn : n < 2 ^ 63) (h : bit n d = 0) : upTo n d = upTo n (d + 1) := by
  have hu := half_up n d
  rw [h] at hu
  have hq : n / 2 ^ (d + 1) < 2 ^ 63 := Nat.lt_of_le_of_lt (Nat.div_le_self _ _) hn
  have ep : 2 ^ (d + 1) = 2 * 2 ^ d := by rw [Nat.pow_succ, Nat.mul_comm]
  unfold upTo
  rw [hu, Nat.add_zero, ones_double _ (by omega), ep, Nat.mul_comm 2 (n / _), Nat.mul_assoc]
theorem upTo_zero (n : Nat) : upTo n 0 = 2 * n - ones n := by unfold upTo; rw [Nat.pow_zero, Nat.div_one, Nat.mul_one]
theorem upTo_top (n : Nat) (h : n < 2 ^ 41) : upTo n 41 = 0 := by
  unfold upTo; rw [Nat.div_eq_of_lt h]; rw [Nat.zero_mul]; omega
theorem upTo_le (n d : Nat) : upTo n d ≤ 2 * n := by
  have := Nat.div_mul_le_self n (2 ^ d)
  unfold upTo; omega
theorem may_of_bit (n d : Nat) (hn : n ≤ 2 ^ 40) (hd : d ≤ 40) (h : bit n d = 1) : May d (n / 2 ^ d - 1) := by
  refine ⟨hd, ?_⟩
  have h1 := Nat.div_mul_le_self n (2 ^ d)
  have h2 : 0 < n / 2 ^ d := by
    unfold bit at h
    generalize n / 2 ^ d = q at *
    omega
  have h3 : (n / 2 ^ d - 1) * 2 ^ d + 1 * 2 ^ d = (n / 2 ^ d) * 2 ^ d := by rw [← Nat.add_mul]; congr 1; omega
  omega
/-- The places of the peaks of heights below d. -/
def pkS (n d : Nat) : List Nat := (mtS n d).map fun b => pl b.1 b.2
theorem pkS_zero (n : Nat) : pkS n 0 = [] := rfl
theorem pkS_one (n d : Nat) (h : bit n d = 1) : pkS n (d + 1) = pl d (n / 2 ^ d - 1) :: pkS n d := by unfold pkS; rw [mtS, if_pos h]; rfl
theorem pkS_no (n d : Nat) (h : bit n d = 0) : pkS n (d + 1) = pkS n d := by unfold pkS; rw [mtS, if_neg (by omega)]; rfl
theorem pkS_le (n d : Nat) : (pkS n d).length ≤ d := by unfold pkS; rw [List.length_map]; exact mtS_le n d
/-- A list of natural numbers, as Go's numbers. -/
def ints (l : List Nat) : List Int := l.map Int.ofNat
theorem ints_nil : ints [] = [] := rfl
theorem ints_cons (x : Nat) (l : List Nat) : ints (x :: l) = (x : Int) :: ints l := rfl
theorem ints_length (l : List Nat) : (ints l).length = l.length := List.length_map ..
theorem ints_append (a b : List Nat) : ints (a ++ b) = ints a ++ ints b := List.map_append ..
theorem mtT_low (n a : Nat) : ∀ b, mtT n a (b + 1) = mtT n (a + 1) b ++ (if bit n a = 1 then [(a, n / 2 ^ a - 1)] else [])
  | 0 => by rw [mtT, mtT, mtT, Nat.add_zero, List.append_nil, List.nil_append]
  | b + 1 => by
    rw [mtT, mtT_low n a b, ← List.append_assoc]
    congr 1
    rw [mtT, show a + 1 + b = a + (b + 1) from by omega]
theorem mtS_none (n : Nat) : ∀ d, n % 2 ^ d = 0 → mtS n d = []
  | 0, _ => rfl
  | d + 1, h => by
    have h1 := bit_of_mod h (Nat.lt_succ_self d)
    have h2 := mod_succ n d
    rw [h1, Nat.mul_zero, h] at h2
    rw [mtS, if_neg (by omega), mtS_none n d (by omega)]; rfl
/-- The places of the peaks of heights from d to 40. -/
def pkT (n d : Nat) : List Nat := (mtT n d (41 - d)).map fun b => pl b.1 b.2
theorem pkT_zero (n : Nat) : pkT n 0 = pkS n 41 := by
  have := mtS_split n 0 41
  rw [Nat.zero_add] at this
  unfold pkT pkS
  rw [this, mtS, List.append_nil]
theorem pkT_one (n d : Nat) (hd : d ≤ 40) (h : bit n d = 1) : pkT n d = pkT n (d + 1) ++ [pl d (n / 2 ^ d - 1)] := by
  unfold pkT
  rw [show 41 - d = (41 - (d + 1)) + 1 from by omega, mtT_low, if_pos h, List.map_append]; rfl
theorem pkT_no (n d : Nat) (hd : d ≤ 40) (h : bit n d = 0) : pkT n d = pkT n (d + 1) := by
  unfold pkT
  rw [show 41 - d = (41 - (d + 1)) + 1 from by omega, mtT_low, if_neg (by omega), List.append_nil]
theorem pkS_pkT (n d : Nat) (hd : d ≤ 41) : pkS n 41 = pkT n d ++ pkS n d := by
  have := mtS_split n d (41 - d)
  rw [show d + (41 - d) = 41 from by omega] at this
  unfold pkT pkS
  rw [this, List.map_append]
theorem pkT_congr (n n' d : Nat) (h : n / 2 ^ d = n' / 2 ^ d) : pkT n d = pkT n' d := by unfold pkT; rw [mtT_congr n n' d h]
theorem pkS_none (n d : Nat) (h : n % 2 ^ d = 0) : pkS n d = [] := by unfold pkS; rw [mtS_none n d h]; rfl
theorem pkT_le (n d : Nat) (hd : d ≤ 41) : (pkT n d).length ≤ 41 := by
  have h1 := pkS_pkT n d hd
  have h2 := pkS_le n 41
  rw [h1, List.length_append] at h2; omega

end Go.Proofs.YtcghicmdphfodaaDoor.MB
