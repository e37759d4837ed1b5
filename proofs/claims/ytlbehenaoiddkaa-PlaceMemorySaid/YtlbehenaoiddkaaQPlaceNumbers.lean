/- What the printed functions of PlaceNumbers come to, function by function. No condition beyond those that each theorem names. -/
import Derived.Test.YtlbehenaoiddkaaPPlaceNumbersx
import Derived.Test.YtlbehenaoiddkaaMB
import Derived.Test.YtlbehenaoiddkaaMP
import Derived.Test.YtlbehenaoiddkaaMS
set_option linter.unusedVariables false
set_option linter.unusedSimpArgs false
namespace Go.Proofs.Ytlbehenaoiddkaa.PPlaceNumbers
open Go.RowKit Go.Proofs.Ytlbehenaoiddkaa.MB Go.Proofs.YtlbehenaoiddkaaW.PrintWords Go.Proofs.YtlbehenaoiddkaaW.PrintLast Go.Proofs.YtlbehenaoiddkaaW.PrintMore

theorem bits1 (n i : Nat) (hn : n < 2 ^ 64) (hi : i ≤ 64) : Go.bits .and .u64 (shr .u64 (n : Int) (i : Int)) 1 = (bit n i : Int) := by
  have e : shr .u64 (n : Int) (i : Int) = ((n / 2 ^ i : Nat) : Int) := by
    unfold shr
    have e1 : min ((i : Int)).toNat IntKind.u64.bits = i := by simp [IntKind.bits]; omega
    rw [e1]; simp
  have hle : n / 2 ^ i ≤ n := Nat.div_le_self _ _
  rw [e]
  unfold bit
  generalize n / 2 ^ i = q at *
  rw [and_one_u64 _ (by omega) (by omega)]; omega
theorem num_Ones.run (n : Nat) (hn : n < 2 ^ 64) : ∀ (d k i : Nat), i + d = 64 → d < k → num_Ones.l0 k n (onesF i n : Nat) i = some (ones n : Int) := by
  intro d
  induction d with
  | zero =>
    intro k i hi hk
    obtain ⟨k, rfl⟩ : ∃ m, k = m + 1 := ⟨k - 1, by omega⟩
    have : i = 64 := by omega
    subst this
    simp only [num_Ones.l0]; rw [if_neg (by omega)]; rfl
  | succ d ih =>
    intro k i hi hk
    obtain ⟨k, rfl⟩ : ∃ m, k = m + 1 := ⟨k - 1, by omega⟩
    have hb := bit_lt n i
    have hl := onesF_le i n
    simp only [num_Ones.l0]; rw [if_pos (by omega), if_pos (by omega), bits1 n i hn (by omega), wrap64_in (bit n i : Int) (by omega) (by omega), wrap64_in _ (by omega) (by omega), wrap64_in _ (by omega) (by omega)]
    have h := ih k (i + 1) (by omega) (by omega)
    rw [onesF_snoc] at h
    exact h
theorem num_Ones.is (n k : Nat) (hn : n < 2 ^ 64) (hk : 65 ≤ k) : num_Ones.f k n = some (ones n : Int) := num_Ones.run n hn 64 k 0 (by omega) (by omega)
theorem massifref02_Ones.run : ∀ (d k n c : Nat), n < 2 ^ d → d < k → d ≤ 64 → c + d ≤ 128 → massifref02_Ones.l0 k n c = some ((c + onesF d n : Nat) : Int) := by
  intro d
  induction d with
  | zero =>
    intro k n c hn hk _ _
    obtain ⟨k, rfl⟩ : ∃ m, k = m + 1 := ⟨k - 1, by omega⟩
    have : n = 0 := by simpa using hn
    subst this
    simp only [massifref02_Ones.l0]; rw [if_neg (by omega)]; rfl
  | succ d ih =>
    intro k n c hn hk hd hc
    obtain ⟨k, rfl⟩ : ∃ m, k = m + 1 := ⟨k - 1, by omega⟩
    have hd64 : 2 ^ (d + 1) ≤ 2 ^ 64 := Nat.pow_le_pow_right (by omega) hd
    have h2 : n / 2 < 2 ^ d := by rw [Nat.pow_succ] at hn; omega
    simp only [massifref02_Ones.l0]
    by_cases e : n = 0
    · subst e; rw [if_neg (by omega), onesF_zero]; rfl
    · rw [if_pos (by omega)]
      have e1 : IntKind.u64.wrap (Int.tdiv (n : Int) 2) = ((n / 2 : Nat) : Int) := by rw [Int.tdiv_eq_ediv_of_nonneg (by omega), wrap_u64_in _ (by omega) (by omega)]; omega
      have e2 : wrap64 ((c : Int) + wrap64 (Int.tmod (n : Int) 2)) = ((c + n % 2 : Nat) : Int) := by
        rw [Int.tmod_eq_emod_of_nonneg (by omega), wrap64_in ((n : Int) % 2) (by omega) (by omega), wrap64_in _ (by omega) (by omega)]; omega
      rw [e1, e2, ih k (n / 2) (c + n % 2) h2 (by omega) (by omega) (by omega), onesF]
      congr 2; omega
theorem massifref02_Ones.is (n k : Nat) (hn : n < 2 ^ 64) (hk : 65 ≤ k) : massifref02_Ones.f k n = some (ones n : Int) := by
  have := massifref02_Ones.run 64 k n 0 hn (by omega) (by omega) (by omega)
  rw [Nat.zero_add] at this; exact this
theorem place_Nodes.is (n k : Nat) (h : n ≤ 2 ^ 40) (hk : 65 ≤ k) : place_Nodes.f k n = some (((2 * n - ones n : Nat) : Int), true) := by
  unfold place_Nodes.f
  have h1 := ones_le_self n
  have h2 := ones_le n
  rw [if_neg (by omega), num_Ones.is n k (by omega) hk]
  simp only [Option.bind_some]
  rw [wrap_u64_in (2 * (n : Int)) (by omega) (by omega), wrap_u64_in ((ones n : Nat) : Int) (by omega) (by omega), wrap_u64_in _ (by omega) (by omega)]
  have e : 2 * (n : Int) - ((ones n : Nat) : Int) = ((2 * n - ones n : Nat) : Int) := by omega
  rw [e]
theorem place_Nodes.no (n : Nat) (k : Nat) (h : 2 ^ 40 < n) : place_Nodes.f k n = some (0, false) := by
  unfold place_Nodes.f; rw [if_pos (by omega)]
theorem pl_leaf (i : Nat) : pl 0 i = 2 * i - ones i := by
  have := pl_le 0 i; have := ones_le_self i
  rw [Nat.pow_zero] at *; omega
theorem place_Leaf.is (i k : Nat) (h : i < 2 ^ 40) (hk : 65 ≤ k) : place_Leaf.f k i = some (((pl 0 i : Nat) : Int), true) := by
  unfold place_Leaf.f
  rw [if_neg (by omega), place_Nodes.is i k (by omega) hk, ← pl_leaf]; rfl
theorem place_Leaf.no (i : Nat) (k : Nat) (h : 2 ^ 40 ≤ i) : place_Leaf.f k i = some (0, false) := by
  unfold place_Leaf.f; rw [if_pos (by omega)]
theorem pow_split {h : Nat} (hh : h ≤ 40) : 2 ^ 40 / 2 ^ h = 2 ^ (40 - h) := Nat.pow_div hh (by omega)
theorem shr40 (h : Nat) (hh : h ≤ 40) : shr .u64 1099511627776 (h : Int) = ((2 ^ (40 - h) : Nat) : Int) := by
  have := shrc (2 ^ 40) h (by omega)
  rw [pow_split hh] at this; exact this
theorem place_may.yes (h k : Nat) (m : May h k) : place_may.f h k = some true := by
  unfold place_may.f
  have h1 := m.1
  have h2 := may_lt m
  rw [if_pos (by omega), if_pos (by omega), if_pos (by omega), shr40 h h1, decide_eq_true (by omega)]
theorem place_may.no (h : Int) (k : Nat) (m : ¬ ∃ n : Nat, h = n ∧ May n k) : place_may.f h k = some false := by
  unfold place_may.f
  by_cases h1 : 0 ≤ h
  · obtain ⟨n, rfl⟩ := Int.eq_ofNat_of_zero_le h1
    rw [if_pos (by omega)]
    by_cases h2 : n ≤ 40
    · rw [if_pos (by omega), if_pos (by omega), shr40 n h2]
      have h3 : ¬ k < 2 ^ (40 - n) := fun hc => m ⟨n, rfl, may_of h2 hc⟩
      rw [decide_eq_false (by omega)]
    · rw [if_neg (by omega)]
  · rw [if_neg (by omega)]
theorem last_item (h k : Nat) (m : May h k) : (k + 1) * 2 ^ h ≤ 2 ^ 40 := by
  have := m.2; rw [Nat.add_mul, Nat.one_mul]; exact this
theorem pl_last (h k : Nat) (m : May h k) : pl 0 ((k + 1) * 2 ^ h - 1) + h = pl h k := by
  have hl := last_item h k m
  have hp := two_pow_pos h
  have h1 := pl_le 0 ((k + 1) * 2 ^ h - 1)
  have h2 := pl_le h k
  have hm1 := m.1
  have hj := ones_join h k (2 ^ h - 1) (by omega) (by rw [Nat.add_mul] at hl; omega)
  rw [ones_full h (by omega)] at hj
  have e : k * 2 ^ h + (2 ^ h - 1) = (k + 1) * 2 ^ h - 1 := by rw [Nat.add_mul]; omega
  rw [e] at hj
  have e2 : 2 * 2 ^ h * (k + 1) = 2 * ((k + 1) * 2 ^ h) := by rw [Nat.mul_assoc, Nat.mul_comm (2 ^ h)]
  have e3 : 1 * 2 ^ h ≤ (k + 1) * 2 ^ h := Nat.mul_le_mul_right _ (by omega)
  rw [Nat.pow_zero] at h1
  omega
theorem place_Of.yes (h k K : Nat) (m : May h k) (hk : 65 ≤ K) : place_Of.f K h k = some (((pl h k : Nat) : Int), true) := by
  unfold place_Of.f
  have hl := last_item h k m
  have hk40 := m.lt
  have hp := two_pow_pos h
  have e3 : 1 * 2 ^ h ≤ (k + 1) * 2 ^ h := Nat.mul_le_mul_right _ (by omega)
  have hm1 := m.1
  have hmax := pl_le_max m
  have hpl := pl_last h k m
  rw [place_may.yes h k m]
  simp only [Option.bind_some, if_true]
  rw [if_pos (by omega), wrap_u64_in ((k : Int) + 1) (by omega) (by omega), show ((k : Int) + 1) = ((k + 1 : Nat) : Int) from by omega, shlc (k + 1) h (by omega) (by omega)]
  generalize (k + 1) * 2 ^ h = q at *
  rw [wrap_u64_in ((q : Int) - 1) (by omega) (by omega), show ((q : Int) - 1) = ((q - 1 : Nat) : Int) from by omega, place_Leaf.is (q - 1) K (by omega) hk]
  simp only [Option.bind_some]
  have e : ((pl 0 (q - 1) : Nat) : Int) + (h : Int) = ((pl h k : Nat) : Int) := by omega
  rw [wrap_u64_in (h : Int) (by omega) (by omega), e, wrap_u64_in _ (by omega) (by omega)]
theorem place_Of.no (h : Int) (k K : Nat) (m : ¬ ∃ n : Nat, h = n ∧ May n k) : place_Of.f K h k = some (0, false) := by
  unfold place_Of.f
  rw [place_may.no h k m]; rfl
theorem place_Block.run (h : Nat) : ∀ (d K r k : Nat), r < 2 ^ d → May (h + d) K → d < k → place_Block.l0 k ((pl h (K * 2 ^ d + r) : Nat) : Int) ((pl (h + d) K : Nat) : Int) ((h + d : Nat) : Int) (K : Int) = some ((h : Int), ((K * 2 ^ d + r : Nat) : Int), true) := by
  intro d
  induction d with
  | zero =>
    intro K r k hr m hk
    obtain ⟨k, rfl⟩ : ∃ m, k = m + 1 := ⟨k - 1, by omega⟩
    have : r = 0 := by simpa using hr
    subst this
    simp only [place_Block.l0]
    rw [Nat.pow_zero, Nat.mul_one, Nat.add_zero, Nat.add_zero, if_pos rfl]
  | succ d ih =>
    intro K r k hr m hk
    obtain ⟨k, rfl⟩ : ∃ m, k = m + 1 := ⟨k - 1, by omega⟩
    obtain ⟨b1, b2, b3⟩ := pl_below h (d + 1) K r hr m
    have b2 := b2 (by omega)
    have m' : May (h + d + 1) K := m
    have hR := pl_right (h + d) K m'
    have hL := pl_left (h + d) K m'
    have hm1 := m.1
    have hpw := m.pow
    have hmax := pl_le_max m
    have hlt := m.lt
    have ep : 2 ^ (d + 1) = 2 * 2 ^ d := by rw [Nat.pow_succ, Nat.mul_comm]
    have hsh := shlc 1 (h + (d + 1)) (by omega) (by omega)
    rw [Nat.one_mul] at hsh
    simp only [place_Block.l0]
    rw [if_neg (by omega), if_pos (by omega), show shl .u64 1 ((h + (d + 1) : Nat) : Int) = ((2 ^ (h + (d + 1)) : Nat) : Int) from hsh]
    have e1 : ((pl (h + (d + 1)) K : Nat) : Int) - ((2 ^ (h + (d + 1)) : Nat) : Int) = ((pl (h + d) (2 * K) : Nat) : Int) := by
      have : pl (h + (d + 1)) K = pl (h + d + 1) K := rfl
      have : 2 ^ (h + (d + 1)) = 2 ^ (h + d + 1) := rfl
      omega
    have e2 : ((pl (h + (d + 1)) K : Nat) : Int) - 1 = ((pl (h + d) (2 * K + 1) : Nat) : Int) := by
      have : pl (h + (d + 1)) K = pl (h + d + 1) K := rfl
      omega
    have e3 : wrap64 (((h + (d + 1) : Nat) : Int) - 1) = ((h + d : Nat) : Int) := by rw [wrap64_in _ (by omega) (by omega)]; omega
    have hl0 := pl_le_max m'.left
    have hr0 := pl_le_max m'.right
    rw [e1, e2, e3, wrap_u64_in ((pl (h + d) (2 * K) : Nat) : Int) (by omega) (by omega), wrap_u64_in ((pl (h + d) (2 * K + 1) : Nat) : Int) (by omega) (by omega)]
    have e4 : IntKind.u64.wrap (2 * (K : Int)) = ((2 * K : Nat) : Int) := by rw [wrap_u64_in _ (by omega) (by omega)]; omega
    have e5 : IntKind.u64.wrap (((2 * K : Nat) : Int) + 1) = ((2 * K + 1 : Nat) : Int) := by rw [wrap_u64_in _ (by omega) (by omega)]; omega
    rw [e4, e5]
    by_cases hc : r < 2 ^ d
    · have em : K * 2 ^ (d + 1) + r = 2 * K * 2 ^ d + r := by rw [ep, ← Nat.mul_assoc, Nat.mul_comm K 2]
      rw [em] at b1 b2 b3 ⊢
      obtain ⟨c1, c2, c3⟩ := pl_below h d (2 * K) r hc m'.left
      rw [if_neg (by omega)]
      exact ih (2 * K) r k hc m'.left (by omega)
    · have em : K * 2 ^ (d + 1) + r = (2 * K + 1) * 2 ^ d + (r - 2 ^ d) := by
        rw [ep, ← Nat.mul_assoc, Nat.mul_comm K 2, Nat.add_mul]; omega
      rw [em] at b1 b2 b3 ⊢
      obtain ⟨c1, c2, c3⟩ := pl_below h d (2 * K + 1) (r - 2 ^ d) (by omega) m'.right
      have ep2 : 2 ^ (h + d + 1) = 2 * 2 ^ (h + d) := by rw [Nat.pow_succ, Nat.mul_comm]
      have hpp := two_pow_pos (h + d)
      rw [if_pos (by omega)]
      exact ih (2 * K + 1) (r - 2 ^ d) k (by omega) m'.right (by omega)
theorem place_Block.yes (h k K : Nat) (m : May h k) (hK : 42 ≤ K) : place_Block.f K ((pl h k : Nat) : Int) = some ((h : Int), (k : Int), true) := by
  unfold place_Block.f
  have hmax := pl_le_max m
  have h1 := m.1
  rw [if_neg (by omega)]
  have hr := place_Block.run h (40 - h) 0 k K (may_lt m) ⟨by omega, by rw [show h + (40 - h) = 40 from by omega]; omega⟩ (by omega)
  rw [show h + (40 - h) = 40 from by omega, Nat.zero_mul, Nat.zero_add, pl_top] at hr
  exact hr
theorem place_Block.no (p : Nat) (K : Nat) (h : 2199023255551 ≤ p) : place_Block.f K p = some (0, 0, false) := by
  unfold place_Block.f; rw [if_pos (by omega)]
/-- A place is that of one block alone. -/
theorem pl_inj {h k h' k' : Nat} (m : May h k) (m' : May h' k') (e : pl h k = pl h' k') : h = h' ∧ k = k' := by
  have a := place_Block.yes h k 42 m (by omega)
  have b := place_Block.yes h' k' 42 m' (by omega)
  rw [e, b] at a
  simp only [Option.some.injEq, Prod.mk.injEq] at a
  omega
theorem place_Height.yes (h k K : Nat) (m : May h k) (hK : 42 ≤ K) : place_Height.f K ((pl h k : Nat) : Int) = some ((h : Int), true) := by
  unfold place_Height.f; rw [place_Block.yes h k K m hK]; rfl
theorem place_Height.no (p : Nat) (K : Nat) (h : 2199023255551 ≤ p) : place_Height.f K p = some (0, false) := by
  unfold place_Height.f; rw [place_Block.no p K h]; rfl
/-- The other child of the parent. -/
def sib (k : Nat) : Nat := if k % 2 = 0 then k + 1 else k - 1
theorem place_beside.yes (h k K : Nat) (m : May h k) (hh : h < 40) (hK : 42 ≤ K) : place_beside.f K ((pl h k : Nat) : Int) = some ((h : Int), ((sib k : Nat) : Int), ((h + 1 : Nat) : Int), ((k / 2 : Nat) : Int), true) := by
  unfold place_beside.f
  have hk := m.lt
  rw [place_Block.yes h k K m hK]
  simp only [Option.bind_some, if_true]
  have e1 : ((h : Int) == 40 && ((k : Int) == 0)) = false := by
    rw [beq_eq_false_iff_ne.2 (show (h : Int) ≠ 40 from by omega)]; rfl
  rw [e1, xor1_u64 k (by omega), wrap64_in _ (by omega) (by omega), Int.tdiv_eq_ediv_of_nonneg (by omega), wrap_u64_in _ (by omega) (by omega)]
  rfl
theorem place_beside.top (K : Nat) (hK : 42 ≤ K) : place_beside.f K ((pl 40 0 : Nat) : Int) = some (0, 0, 0, 0, false) := by
  unfold place_beside.f
  rw [place_Block.yes 40 0 K ⟨by omega, by omega⟩ hK]; rfl
theorem place_beside.no (p : Nat) (K : Nat) (h : 2199023255551 ≤ p) : place_beside.f K p = some (0, 0, 0, 0, false) := by
  unfold place_beside.f; rw [place_Block.no p K h]; rfl
theorem place_Parent.yes (h k K : Nat) (m : May h k) (hh : h < 40) (hK : 65 ≤ K) : place_Parent.f K ((pl h k : Nat) : Int) = some (((pl (h + 1) (k / 2) : Nat) : Int), true) := by
  unfold place_Parent.f
  rw [place_beside.yes h k K m hh (by omega)]
  simp only [Option.bind_some, if_true]
  rw [place_Of.yes (h + 1) (k / 2) K (m.up hh) hK]; rfl
theorem place_Parent.top (K : Nat) (hK : 65 ≤ K) : place_Parent.f K ((pl 40 0 : Nat) : Int) = some (0, false) := by
  unfold place_Parent.f; rw [place_beside.top K (by omega)]; rfl
theorem place_Parent.no (p : Nat) (K : Nat) (h : 2199023255551 ≤ p) : place_Parent.f K p = some (0, false) := by
  unfold place_Parent.f; rw [place_beside.no p K h]; rfl
theorem place_Sibling.yes (h k K : Nat) (m : May h k) (hh : h < 40) (hK : 65 ≤ K) : place_Sibling.f K ((pl h k : Nat) : Int) = some (((pl h (sib k) : Nat) : Int), true) := by
  unfold place_Sibling.f
  rw [place_beside.yes h k K m hh (by omega)]
  simp only [Option.bind_some, if_true]
  rw [place_Of.yes h (sib k) K (m.sib hh) hK]; rfl
theorem place_Sibling.top (K : Nat) (hK : 65 ≤ K) : place_Sibling.f K ((pl 40 0 : Nat) : Int) = some (0, false) := by
  unfold place_Sibling.f; rw [place_beside.top K (by omega)]; rfl
theorem place_Sibling.no (p : Nat) (K : Nat) (h : 2199023255551 ≤ p) : place_Sibling.f K p = some (0, false) := by
  unfold place_Sibling.f; rw [place_beside.no p K h]; rfl
theorem shl2 (h : Nat) (hh : h < 63) : shl .u64 2 (h : Int) = ((2 * 2 ^ h : Nat) : Int) := by
  have hp : 2 ^ h < 2 ^ 63 := Nat.pow_lt_pow_right (by omega) hh
  exact shlc 2 h (by omega) (by omega)
theorem massifref03_nodes.is (h : Nat) (hh : h < 63) : massifref03_nodes.f h = some ((2 * 2 ^ h - 1 : Nat) : Int) := by
  unfold massifref03_nodes.f
  have hp : 2 ^ h < 2 ^ 63 := Nat.pow_lt_pow_right (by omega) hh
  have hq := two_pow_pos h
  rw [wrap_u64_in (h : Int) (by omega) (by omega), if_pos (by omega), shl2 h hh]
  generalize 2 ^ h = q at *
  rw [wrap_u64_in _ (by omega) (by omega)]
  congr 1; omega
theorem place_Peaks.run (n : Nat) (hn : n ≤ 2 ^ 40) : ∀ (d k : Nat) (acc : List Int), d ≤ 41 → d < k → acc.length + d ≤ 41 → place_Peaks.l0 k n acc ((upTo n d : Nat) : Int) ((d : Int) - 1) = some (acc ++ ints (pkS n d)) := by
  intro d
  induction d with
  | zero =>
    intro k acc _ hk _
    obtain ⟨k, rfl⟩ : ∃ m, k = m + 1 := ⟨k - 1, by omega⟩
    simp only [place_Peaks.l0]
    rw [if_neg (by omega), pkS_zero, ints_nil, List.append_nil]
  | succ d ih =>
    intro k acc hd hk hl
    obtain ⟨k, rfl⟩ : ∃ m, k = m + 1 := ⟨k - 1, by omega⟩
    have hb := bit_lt n d
    have hup := upTo_le n d
    have hup1 := upTo_le n (d + 1)
    have hx : ((d + 1 : Nat) : Int) - 1 = (d : Int) := by omega
    have hw : wrap64 ((d : Int) - 1) = (d : Int) - 1 := wrap64_in _ (by omega) (by omega)
    have hpd : 2 ^ d ≤ 2 ^ 40 := Nat.pow_le_pow_right (by omega) (by omega)
    have hs2 : shl .u64 2 (d : Int) = ((2 * 2 ^ d : Nat) : Int) := shlc 2 d (by omega) (by omega)
    have hp := two_pow_pos d
    simp only [place_Peaks.l0]
    rw [hx, if_pos (by omega), if_pos (by omega), bits1 n d (by omega) (by omega), hw, hs2]
    by_cases e : bit n d = 1
    · obtain ⟨s1, s2⟩ := upTo_step1 n d (by omega) e
      have e1 : IntKind.u64.wrap (((upTo n (d + 1) : Nat) : Int) + IntKind.u64.wrap (((2 * 2 ^ d : Nat) : Int) - 1)) = ((upTo n d : Nat) : Int) := by
        generalize 2 ^ d = p at *
        rw [wrap_u64_in (((2 * p : Nat) : Int) - 1) (by omega) (by omega), wrap_u64_in _ (by omega) (by omega)]; omega
      have e2 : IntKind.u64.wrap (((upTo n d : Nat) : Int) - 1) = ((pl d (n / 2 ^ d - 1) : Nat) : Int) := by rw [wrap_u64_in _ (by omega) (by omega)]; omega
      rw [if_pos (by omega), if_pos (by omega), e1, e2, ih k _ (by omega) (by omega) (by rw [List.length_append]; simp; omega), pkS_one n d e, ints_cons, List.append_assoc]
      rfl
    · have e0 : bit n d = 0 := by omega
      rw [if_neg (by omega), pkS_no n d e0, ← upTo_step0 n d (by omega) e0]
      exact ih k acc (by omega) (by omega) (by omega)
theorem place_Peaks.is (n k : Nat) (hn : n ≤ 2 ^ 40) (hk : 42 ≤ k) : place_Peaks.f k n = some (ints (pkS n 41)) := by
  unfold place_Peaks.f
  rw [if_neg (by omega)]
  have h := place_Peaks.run n hn 41 k [] (by omega) (by omega) (by simp)
  rw [upTo_top n (by omega)] at h
  exact h
theorem place_Peaks.no (n k : Nat) (hn : 2 ^ 40 < n) : place_Peaks.f k n = some [] := by
  unfold place_Peaks.f; rw [if_pos (by omega)]
theorem massiflaw03_alive.is (k : Nat) (hk : 65 ≤ k) : massiflaw03_alive.f k = some true := by
  have m12 : May 1 2 := ⟨by omega, by omega⟩
  have m11 : May 1 1 := ⟨by omega, by omega⟩
  have m30 : May 3 0 := ⟨by omega, by omega⟩
  have m20 : May 2 0 := ⟨by omega, by omega⟩
  have a1 : place_Nodes.f k 7 = some (11, true) := (place_Nodes.is 7 k (by omega) hk).trans (by decide)
  have a2 : place_Leaf.f k 5 = some (8, true) := (place_Leaf.is 5 k (by omega) hk).trans (by decide)
  have a3 : place_Of.f k 1 2 = some (9, true) := (place_Of.yes 1 2 k m12 hk).trans (by decide)
  have a4 : place_Block.f k 5 = some (1, 1, true) := place_Block.yes 1 1 k m11 (by omega)
  have a5 : place_Height.f k 14 = some (3, true) := place_Height.yes 3 0 k m30 (by omega)
  have a6 : place_Parent.f k 5 = some (6, true) := (place_Parent.yes 1 1 k m11 (by omega) hk).trans (by decide)
  have a7 : place_Sibling.f k 6 = some (13, true) := (place_Sibling.yes 2 0 k m20 (by omega) hk).trans (by decide)
  have a8 : place_Peaks.f k 7 = some [6, 9, 10] := (place_Peaks.is 7 k (by omega) (by omega)).trans (by decide)
  have a9 : place_Nodes.f k 1099511627777 = some (0, false) := place_Nodes.no 1099511627777 k (by omega)
  unfold massiflaw03_alive.f
  rw [a1, a2, a3, a4, a5, a6, a7, a8, a9]
  simp [rd]
theorem massiflaw03_same.run (l : List Int) (hl : l.length < 2 ^ 62) : ∀ (d k i : Nat), i + d = l.length → d < k → massiflaw03_same.l0 k l l i = some true := by
  intro d
  induction d with
  | zero =>
    intro k i hi hk
    obtain ⟨k, rfl⟩ : ∃ m, k = m + 1 := ⟨k - 1, by omega⟩
    simp only [massiflaw03_same.l0]; rw [if_neg (by omega)]
  | succ d ih =>
    intro k i hi hk
    obtain ⟨k, rfl⟩ : ∃ m, k = m + 1 := ⟨k - 1, by omega⟩
    simp only [massiflaw03_same.l0]; rw [if_pos (by omega), if_pos (by omega), if_pos (by omega), wrap64_in _ (by omega) (by omega)]
    exact ih k (i + 1) (by omega) (by omega)
theorem massiflaw03_same.self (l : List Int) (k : Nat) (hl : l.length < 2 ^ 62) (hk : l.length < k) : massiflaw03_same.f k l l = some true := by
  unfold massiflaw03_same.f; rw [if_pos rfl]; exact massiflaw03_same.run l hl l.length k 0 (by omega) (by omega)
theorem massifref03_May.yes (h k : Nat) (m : May h k) : massifref03_May.f h k = some true := by
  unfold massifref03_May.f
  have h1 := m.1
  have h2 := may_lt m
  rw [if_pos (by omega), if_pos (by omega), wrap_u64_in (h : Int) (by omega) (by omega), if_pos (by omega), shr40 h h1, decide_eq_true (by omega)]
theorem massifref03_May.no (h : Int) (k : Nat) (m : ¬ ∃ n : Nat, h = n ∧ May n k) : massifref03_May.f h k = some false := by
  unfold massifref03_May.f
  by_cases h1 : 0 ≤ h
  · obtain ⟨n, rfl⟩ := Int.eq_ofNat_of_zero_le h1
    rw [if_pos (by omega)]
    by_cases h2 : n ≤ 40
    · rw [if_pos (by omega), wrap_u64_in (n : Int) (by omega) (by omega), if_pos (by omega), shr40 n h2]
      have h3 : ¬ k < 2 ^ (40 - n) := fun hc => m ⟨n, rfl, may_of h2 hc⟩
      rw [decide_eq_false (by omega)]
    · rw [if_neg (by omega)]
  · rw [if_neg (by omega)]
/-- Where a block's tree begins, by the halves above it that lie to the right. -/
def fromAt (h k j : Nat) : Nat := 2 * 2 ^ h * (2 ^ j * (k / 2 ^ j)) - ones (k / 2 ^ j)
theorem fromAt_le (h k j : Nat) : ones (k / 2 ^ j) ≤ 2 * 2 ^ h * (2 ^ j * (k / 2 ^ j)) := by
  have h1 := ones_mul_le (k / 2 ^ j) j
  have h2 : 1 * (2 ^ j * (k / 2 ^ j)) ≤ 2 * 2 ^ h * (2 ^ j * (k / 2 ^ j)) := Nat.mul_le_mul_right _ (by have := two_pow_pos h; omega)
  rw [Nat.mul_comm] at h1; omega
theorem massifref03_Of.run (h k : Nat) (m : May h k) : ∀ (j K : Nat), h + j ≤ 40 → j < K → massifref03_Of.l0 K ((fromAt h k j : Nat) : Int) ((h + j : Nat) : Int) (h : Int) (k : Int) = some (((pl h k : Nat) : Int), true) := by
  intro j
  have hk40 := m.lt
  have hl := m.2
  have hp := two_pow_pos h
  have hpw := m.pow
  have hb : 2 * 2 ^ h * k + 2 * 2 ^ h ≤ 2 * 2 ^ 40 := by
    rw [Nat.mul_assoc, Nat.mul_comm (2 ^ h) k]; omega
  induction j with
  | zero =>
    intro K hj hK
    obtain ⟨K, rfl⟩ : ∃ m, K = m + 1 := ⟨K - 1, by omega⟩
    have hle := fromAt_le h k 0
    have hpl := pl_le h k
    simp only [massifref03_Of.l0]
    rw [if_neg (by omega), massifref03_nodes.is h (by omega)]
    simp only [Option.bind_some]
    have e : fromAt h k 0 + 2 * 2 ^ h = pl h k + 2 := by
      unfold fromAt at *
      rw [Nat.pow_zero, Nat.div_one, Nat.one_mul] at *
      rw [Nat.mul_add, Nat.mul_one] at hpl
      omega
    have hmax := pl_le_max m
    generalize 2 ^ h = q at *
    have e1 : ((fromAt h k 0 : Nat) : Int) + ((2 * q - 1 : Nat) : Int) - 1 = ((pl h k : Nat) : Int) := by omega
    rw [wrap_u64_in (((fromAt h k 0 : Nat) : Int) + _) (by omega) (by omega), e1, wrap_u64_in _ (by omega) (by omega)]
  | succ j ih =>
    intro K hj hK
    obtain ⟨K, rfl⟩ : ∃ m, K = m + 1 := ⟨K - 1, by omega⟩
    have hbt := bit_lt k j
    have hu := half_up k j
    have hle := fromAt_le h k (j + 1)
    have hle0 := fromAt_le h k j
    have e1 : wrap64 (wrap64 (((h + (j + 1) : Nat) : Int) - 1) - (h : Int)) = (j : Int) := by
      rw [wrap64_in (((h + (j + 1) : Nat) : Int) - 1) (by omega) (by omega), wrap64_in _ (by omega) (by omega)]; omega
    have e2 : wrap64 (((h + (j + 1) : Nat) : Int) - 1) = ((h + j : Nat) : Int) := by rw [wrap64_in _ (by omega) (by omega)]; omega
    simp only [massifref03_Of.l0]
    rw [if_pos (by omega), e1, wrap_u64_in (j : Int) (by omega) (by omega), if_pos (by omega), shrc k j (by omega), e2, massifref03_nodes.is (h + j) (by omega)]
    simp only [Option.bind_some]
    have ep : 2 ^ (j + 1) = 2 * 2 ^ j := by rw [Nat.pow_succ, Nat.mul_comm]
    have eph : 2 ^ (h + j) = 2 ^ h * 2 ^ j := Nat.pow_add 2 h j
    have hq : k / 2 ^ (j + 1) < 2 ^ 40 := Nat.lt_of_le_of_lt (Nat.div_le_self _ _) hk40
    have htm : Int.tmod ((k / 2 ^ j : Nat) : Int) 2 = ((bit k j : Nat) : Int) := by
      rw [Int.tmod_eq_emod_of_nonneg (Int.natCast_nonneg _)]; rfl
    rw [htm]
    have hbound : 2 * 2 ^ h * (2 ^ j * (k / 2 ^ j)) ≤ 2 * 2 ^ h * k := Nat.mul_le_mul_left _ (by rw [Nat.mul_comm]; exact Nat.div_mul_le_self _ _)
    have hmul : 2 * 2 ^ h * (2 ^ j * (2 * (k / 2 ^ (j + 1)))) = 2 * 2 ^ h * (2 ^ (j + 1) * (k / 2 ^ (j + 1))) := by
      rw [ep]; congr 1; rw [Nat.mul_left_comm, Nat.mul_assoc]
    by_cases e : bit k j = 1
    · have hf : fromAt h k j + 1 = fromAt h k (j + 1) + 2 * 2 ^ (h + j) := by
        rw [e] at hu
        have hA : 2 * 2 ^ h * (2 ^ j * (k / 2 ^ j)) = 2 * 2 ^ h * (2 ^ (j + 1) * (k / 2 ^ (j + 1))) + 2 * 2 ^ (h + j) := by
          rw [hu, Nat.mul_add (2 ^ j), Nat.mul_one, Nat.mul_add (2 * 2 ^ h), hmul, eph, Nat.mul_assoc 2 (2 ^ h) (2 ^ j)]
        have hB : ones (k / 2 ^ j) = ones (k / 2 ^ (j + 1)) + 1 := by rw [hu, ones_double1 _ (by omega)]
        have hC := two_pow_pos (h + j)
        unfold fromAt
        rw [hA, hB]
        omega
      have e3 : IntKind.u64.wrap (((fromAt h k (j + 1) : Nat) : Int) + ((2 * 2 ^ (h + j) - 1 : Nat) : Int)) = ((fromAt h k j : Nat) : Int) := by
        have hfb : fromAt h k j ≤ 2 * 2 ^ 40 := by unfold fromAt; omega
        have hpp := two_pow_pos (h + j)
        generalize 2 ^ (h + j) = q at *
        rw [wrap_u64_in _ (by omega) (by omega)]; omega
      rw [if_pos (by omega), e3]
      exact ih K (by omega) (by omega)
    · have e0 : bit k j = 0 := by omega
      have hf : fromAt h k j = fromAt h k (j + 1) := by
        rw [e0, Nat.add_zero] at hu
        unfold fromAt
        rw [hu, hmul, ones_double _ (by omega)]
      rw [if_neg (by omega), ← hf]
      exact ih K (by omega) (by omega)
theorem massifref03_Of.yes (h k K : Nat) (m : May h k) (hk : 42 ≤ K) : massifref03_Of.f K h k = some (((pl h k : Nat) : Int), true) := by
  unfold massifref03_Of.f
  rw [massifref03_May.yes h k m]
  simp only [Option.bind_some, if_true]
  have h1 := m.1
  have hr := massifref03_Of.run h k m (40 - h) K (by omega) (by omega)
  have h2 := may_lt m
  have e : fromAt h k (40 - h) = 0 := by unfold fromAt; rw [Nat.div_eq_of_lt h2, Nat.mul_zero, Nat.mul_zero]; omega
  rw [e, show h + (40 - h) = 40 from by omega] at hr
  exact hr
theorem massifref03_Of.no (h : Int) (k K : Nat) (m : ¬ ∃ n : Nat, h = n ∧ May n k) : massifref03_Of.f K h k = some (0, false) := by
  unfold massifref03_Of.f
  rw [massifref03_May.no h k m]; rfl
theorem massifref03_Nodes.is (n k : Nat) (h : n ≤ 2 ^ 40) (hk : 65 ≤ k) : massifref03_Nodes.f k n = some (((2 * n - ones n : Nat) : Int), true) := by
  unfold massifref03_Nodes.f
  have h1 := ones_le_self n
  have h2 := ones_le n
  rw [if_neg (by omega), massifref02_Ones.is n k (by omega) hk]
  simp only [Option.bind_some]
  rw [wrap_u64_in (2 * (n : Int)) (by omega) (by omega), wrap_u64_in ((ones n : Nat) : Int) (by omega) (by omega), wrap_u64_in _ (by omega) (by omega)]
  have e : 2 * (n : Int) - ((ones n : Nat) : Int) = ((2 * n - ones n : Nat) : Int) := by omega
  rw [e]
theorem massifref03_Nodes.no (n : Nat) (k : Nat) (h : 2 ^ 40 < n) : massifref03_Nodes.f k n = some (0, false) := by
  unfold massifref03_Nodes.f; rw [if_pos (by omega)]
theorem massifref03_Leaf.is (i k : Nat) (h : i < 2 ^ 40) (hk : 65 ≤ k) : massifref03_Leaf.f k i = some (((pl 0 i : Nat) : Int), true) := by
  unfold massifref03_Leaf.f
  have := massifref03_Of.yes 0 i k ⟨by omega, by omega⟩ (by omega)
  rw [show massifref03_Of.f k 0 i = some (((pl 0 i : Nat) : Int), true) from this]; rfl
theorem massifref03_Leaf.no (i : Nat) (k : Nat) (h : 2 ^ 40 ≤ i) : massifref03_Leaf.f k i = some (0, false) := by
  unfold massifref03_Leaf.f
  have hno : ¬ ∃ n : Nat, (0 : Int) = n ∧ May n i := by
    intro hx
    obtain ⟨n, e, m⟩ := hx
    have h1 := m.2
    have h0 : n = 0 := by omega
    subst h0
    rw [Nat.pow_zero] at h1
    omega
  have := massifref03_Of.no 0 i k hno
  rw [this]; rfl
/-- Blocks, as the printed record. -/
def blks (l : List (Nat × Nat)) : List S24 := l.map fun b => ⟨(b.1 : Int), (b.2 : Int)⟩
theorem massifref03_Mountains.run (n : Nat) (hn : n ≤ 2 ^ 40) : ∀ (d k : Nat) (acc : List S24), d ≤ 41 → d < k → acc.length + d ≤ 41 → massifref03_Mountains.l0 k n acc ((n / 2 ^ d * 2 ^ d : Nat) : Int) ((d : Int) - 1) = some (acc ++ blks (mtS n d)) := by
  intro d
  induction d with
  | zero =>
    intro k acc _ hk _
    obtain ⟨k, rfl⟩ : ∃ m, k = m + 1 := ⟨k - 1, by omega⟩
    simp only [massifref03_Mountains.l0]
    rw [if_neg (by omega)]
    simp [blks, mtS]
  | succ d ih =>
    intro k acc hd hk hl
    obtain ⟨k, rfl⟩ : ∃ m, k = m + 1 := ⟨k - 1, by omega⟩
    have hb := bit_lt n d
    have hu := half_up n d
    have hx : ((d + 1 : Nat) : Int) - 1 = (d : Int) := by omega
    have hw : wrap64 ((d : Int) - 1) = (d : Int) - 1 := wrap64_in _ (by omega) (by omega)
    have hp := two_pow_pos d
    have ep : 2 ^ (d + 1) = 2 * 2 ^ d := by rw [Nat.pow_succ, Nat.mul_comm]
    have hpd : 2 ^ d ≤ 2 ^ 40 := Nat.pow_le_pow_right (by omega) (by omega)
    have hle := Nat.div_mul_le_self n (2 ^ d)
    have hle1 := Nat.div_mul_le_self n (2 ^ (d + 1))
    have htm : Int.tmod ((n / 2 ^ d : Nat) : Int) 2 = ((bit n d : Nat) : Int) := by
      rw [Int.tmod_eq_emod_of_nonneg (Int.natCast_nonneg _)]; rfl
    have hs1 := shlc 1 d (by omega) (by omega)
    rw [Nat.one_mul] at hs1
    simp only [massifref03_Mountains.l0]
    rw [hx, if_pos (by omega), wrap_u64_in (d : Int) (by omega) (by omega), if_pos (by omega), shrc n d (by omega), htm, hw, show shl .u64 1 (d : Int) = ((2 ^ d : Nat) : Int) from hs1, shrc _ d (by omega)]
    have hmul : n / 2 ^ (d + 1) * 2 ^ (d + 1) = 2 * (n / 2 ^ (d + 1)) * 2 ^ d := by rw [ep, ← Nat.mul_assoc, Nat.mul_comm _ 2]
    by_cases e : bit n d = 1
    · rw [e] at hu
      have hq : n / 2 ^ (d + 1) * 2 ^ (d + 1) / 2 ^ d = n / 2 ^ d - 1 := by
        rw [hmul, Nat.mul_div_cancel _ hp]; omega
      have hs : n / 2 ^ (d + 1) * 2 ^ (d + 1) + 2 ^ d = n / 2 ^ d * 2 ^ d := by
        rw [hmul, hu, Nat.add_mul, Nat.one_mul]
      have e1 : IntKind.u64.wrap (((n / 2 ^ (d + 1) * 2 ^ (d + 1) : Nat) : Int) + ((2 ^ d : Nat) : Int)) = ((n / 2 ^ d * 2 ^ d : Nat) : Int) := by
        rw [← Int.natCast_add, hs, wrap_u64_cast _ (by omega)]
      rw [if_pos (by omega), if_pos (by omega), hq, e1, ih k _ (by omega) (by omega) (by rw [List.length_append]; simp; omega), mtS, if_pos e, List.append_assoc]
      rfl
    · have e0 : bit n d = 0 := by omega
      rw [e0, Nat.add_zero] at hu
      have hs : n / 2 ^ (d + 1) * 2 ^ (d + 1) = n / 2 ^ d * 2 ^ d := by rw [hmul, hu]
      rw [if_neg (by omega), hs, mtS, if_neg e]
      exact ih k acc (by omega) (by omega) (by omega)
theorem massifref03_Mountains.is (n k : Nat) (hn : n ≤ 2 ^ 40) (hk : 42 ≤ k) : massifref03_Mountains.f k n = some (blks (mtS n 41)) := by
  unfold massifref03_Mountains.f
  rw [if_neg (by omega)]
  have h := massifref03_Mountains.run n hn 41 k [] (by omega) (by omega) (by simp)
  rw [Nat.div_eq_of_lt (show n < 2 ^ 41 from by omega), Nat.zero_mul] at h
  exact h
theorem massifref03_Mountains.no (n k : Nat) (hn : 2 ^ 40 < n) : massifref03_Mountains.f k n = some [] := by
  unfold massifref03_Mountains.f; rw [if_pos (by omega)]
theorem blks_get (l : List (Nat × Nat)) (i : Nat) (h : i < l.length) : rd_T24 (blks l) (i : Int) = ⟨(l[i].1 : Int), (l[i].2 : Int)⟩ := by
  unfold rd_T24 blks
  rw [Int.toNat_natCast, List.getD_eq_getElem?_getD, List.getElem?_map, List.getElem?_eq_getElem h]
  rfl
theorem massifref03_Peaks.run (l : List (Nat × Nat)) (hl : l.length ≤ 64) (hm : ∀ b ∈ l, May b.1 b.2) : ∀ (d k i : Nat), i + d = l.length → d + 66 < k → massifref03_Peaks.l0 k (ints ((l.take i).map fun b => pl b.1 b.2)) (blks l) i = some (ints (l.map fun b => pl b.1 b.2)) := by
  have hbl : (blks l).length = l.length := List.length_map ..
  intro d
  induction d with
  | zero =>
    intro k i hi hk
    obtain ⟨k, rfl⟩ : ∃ m, k = m + 1 := ⟨k - 1, by omega⟩
    simp only [massifref03_Peaks.l0]
    rw [hbl, if_neg (by omega), List.take_of_length_le (by omega)]
  | succ d ih =>
    intro k i hi hk
    obtain ⟨k, rfl⟩ : ∃ m, k = m + 1 := ⟨k - 1, by omega⟩
    have hil : i < l.length := by omega
    simp only [massifref03_Peaks.l0]
    rw [hbl, if_pos (by omega), if_pos (by omega), blks_get l i hil]
    simp only []
    rw [massifref03_Of.yes _ _ k (hm _ (List.getElem_mem hil)) (by omega)]
    simp only [Option.bind_some]
    rw [ints_length, List.length_map, List.length_take, if_pos (by omega), wrap64_in _ (by omega) (by omega)]
    have h := ih k (i + 1) (by omega) (by omega)
    rw [List.take_succ_eq_append_getElem hil, List.map_append, ints_append] at h
    exact h
theorem mtS_may (n : Nat) (hn : n ≤ 2 ^ 40) : ∀ d, d ≤ 41 → ∀ b ∈ mtS n d, May b.1 b.2
  | 0, _, b, hb => by simp [mtS] at hb
  | d + 1, hd, b, hb => by
    rw [mtS, List.mem_append] at hb
    rcases hb with h | h
    · by_cases e : bit n d = 1
      · rw [if_pos e, List.mem_singleton] at h
        subst h
        exact may_of_bit n d hn (by omega) e
      · rw [if_neg e] at h; cases h
    · exact mtS_may n hn d (by omega) b h
theorem massifref03_Peaks.is (n k : Nat) (hn : n ≤ 2 ^ 40) (hk : 120 ≤ k) : massifref03_Peaks.f k n = some (ints (pkS n 41)) := by
  unfold massifref03_Peaks.f
  rw [massifref03_Mountains.is n k hn (by omega)]
  simp only [Option.bind_some]
  have hl := mtS_le n 41
  exact massifref03_Peaks.run (mtS n 41) (by omega) (mtS_may n hn 41 (by omega)) (mtS n 41).length k 0 (by omega) (by omega)
theorem massifref03_Peaks.no (n k : Nat) (hn : 2 ^ 40 < n) (hk : 1 ≤ k) : massifref03_Peaks.f k n = some [] := by
  obtain ⟨k, rfl⟩ : ∃ m, k = m + 1 := ⟨k - 1, by omega⟩
  unfold massifref03_Peaks.f
  rw [massifref03_Mountains.no n _ hn]
  simp only [Option.bind_some, massifref03_Peaks.l0]
  rfl

end Go.Proofs.Ytlbehenaoiddkaa.PPlaceNumbers
