/- Plain facts for the list law of ranges: the ones at the end, places of a leaf's ancestors, blocks within the first n. No condition. -/
import Derived.Test.YtgooamgpojeeaaaPkTr
import Derived.Test.YtgooamgpojeeaaaQPeaksList
set_option linter.unusedVariables false
set_option linter.unusedSimpArgs false
namespace Go.Proofs.Ytgooamgpojeeaaa.Pk
open Go.RowKit Go.Proofs.Ytgooamgpojeeaaa.MB Go.Proofs.Ytgooamgpojeeaaa.MH Go.Proofs.YtgooamgpojeeaaaW.PrintWords Go.Proofs.Ytgooamgpojeeaaa.PPeaksList
theorem half_u64 (x : Nat) (hx : x ≤ 2 ^ 40) : IntKind.u64.wrap (Int.tdiv (x : Int) 2) = ((x / 2 : Nat) : Int) := by
  rw [Int.tdiv_eq_ediv_of_nonneg (by omega), MB.wrap_u64_in _ (by omega) (by omega)]; rfl
theorem trail_run (i : Nat) (hi : i ≤ 2 ^ 40) : ∀ (d j K : Nat), j + d = t1 i → d < K → massiflaw09_trail.l0 K ((i / 2 ^ j : Nat) : Int) (j : Int) = some (t1 i : Int) := by
  have ht : t1 i ≤ 64 := Nat.le_trans (t1_le_ones i (by omega)) (ones_le i)
  intro d
  induction d with
  | zero =>
    intro j K hj hK
    obtain ⟨K, rfl⟩ : ∃ m, K = m + 1 := ⟨K - 1, by omega⟩
    have h := t1_even i (by omega)
    have hj' : j = t1 i := by omega
    rw [massiflaw09_trail.l0, Int.tmod_eq_emod_of_nonneg (Int.natCast_nonneg _), hj', if_neg (by omega)]
  | succ d ih =>
    intro j K hj hK
    obtain ⟨K, rfl⟩ : ∃ m, K = m + 1 := ⟨K - 1, by omega⟩
    have h := t1_odd i j (by omega) (by omega)
    have hle : i / 2 ^ j ≤ i := Nat.div_le_self _ _
    have e1 : i / 2 ^ (j + 1) = i / 2 ^ j / 2 := by rw [Nat.pow_succ, ← Nat.div_div_eq_div_mul]
    have e2 : IntKind.u64.wrap (Int.tdiv ((i / 2 ^ j : Nat) : Int) 2) = ((i / 2 ^ (j + 1) : Nat) : Int) := by
      rw [e1]; exact half_u64 _ (by omega)
    rw [massiflaw09_trail.l0, Int.tmod_eq_emod_of_nonneg (Int.natCast_nonneg _), if_pos (by omega), e2, MB.wrap64_in _ (by omega) (by omega)]
    exact ih (j + 1) K (by omega) (by omega)
theorem trail_is (i : Nat) (hi : i ≤ 2 ^ 40) : massiflaw09_trail.f 100 (i : Int) = some (t1 i : Int) := by
  have ht : t1 i ≤ 64 := Nat.le_trans (t1_le_ones i (by omega)) (ones_le i)
  have := trail_run i hi (t1 i) 0 100 (by omega) (by omega)
  rw [Nat.pow_zero, Nat.div_one] at this; exact this
theorem up_fit (i : Nat) (hi : i + 1 ≤ 2 ^ 40) (j : Nat) (hj : j ≤ t1 i) : (i / 2 ^ j + 1) * 2 ^ j = i + 1 := by
  have h1 := (t1_spec i (by omega)).1
  have e : i + 1 = 2 ^ j * (2 ^ (t1 i - j) * ((i + 1) / 2 ^ t1 i)) := by
    have e1 : i + 1 = 2 ^ t1 i * ((i + 1) / 2 ^ t1 i) := by have := Nat.div_add_mod (i + 1) (2 ^ t1 i); omega
    have e2 : 2 ^ t1 i = 2 ^ j * 2 ^ (t1 i - j) := by rw [← Nat.pow_add]; congr 1; omega
    rw [← Nat.mul_assoc, ← e2]; exact e1
  obtain ⟨c, hc⟩ : ∃ c, c = 2 ^ (t1 i - j) * ((i + 1) / 2 ^ t1 i) := ⟨_, rfl⟩
  rw [← hc] at e
  have hc0 : 0 < c := by
    rcases Nat.eq_zero_or_pos c with h0 | h0
    · rw [h0, Nat.mul_zero] at e; exact absurd e (Nat.succ_ne_zero _)
    · exact h0
  rw [div_pred i j c e, show c - 1 + 1 = c from by omega, Nat.mul_comm]; exact e.symm
theorem up_pl (i : Nat) (hi : i + 1 ≤ 2 ^ 40) : ∀ j, j ≤ t1 i → May j (i / 2 ^ j) ∧ pl j (i / 2 ^ j) = pl 0 i + j
  | 0, _ => by
    refine ⟨⟨by omega, ?_⟩, by simp⟩
    rw [Nat.pow_zero, Nat.div_one]; omega
  | j + 1, hj => by
    obtain ⟨h1, h2⟩ := up_pl i hi j (by omega)
    have ho := t1_odd i j (by omega) (by omega)
    have e1 : i / 2 ^ (j + 1) = i / 2 ^ j / 2 := by rw [Nat.pow_succ, ← Nat.div_div_eq_div_mul]
    have e2 : i / 2 ^ j = 2 * (i / 2 ^ (j + 1)) + 1 := by omega
    have hf := up_fit i hi (j + 1) hj
    have hm : May (j + 1) (i / 2 ^ (j + 1)) := by
      have hle : 2 ^ (j + 1) ≤ 2 ^ 40 := by
        have : 2 ^ (j + 1) ≤ (i / 2 ^ (j + 1) + 1) * 2 ^ (j + 1) := Nat.le_mul_of_pos_left _ (by omega)
        omega
      refine ⟨by have := (Nat.pow_le_pow_iff_right (a := 2) (by omega)).1 hle; omega, ?_⟩
      rw [← Nat.succ_mul]; exact Nat.le_trans (Nat.le_of_eq hf) hi
    refine ⟨hm, ?_⟩
    have := pl_right j (i / 2 ^ (j + 1)) hm
    rw [← e2] at this; omega
theorem mt_fit (n : Nat) : ∀ (d : Nat) (b : Nat × Nat), b ∈ mtS n d → (b.2 + 1) * 2 ^ b.1 ≤ n
  | 0, b, h => by cases h
  | d + 1, b, h => by
    rw [mtS] at h
    rcases List.mem_append.1 h with h | h
    · split at h
      · rename_i hb
        rw [List.mem_singleton.1 h]
        have : 0 < n / 2 ^ d := by
          unfold bit at hb
          rcases Nat.eq_zero_or_pos (n / 2 ^ d) with h0 | h0
          · rw [h0] at hb; cases hb
          · exact h0
        show (n / 2 ^ d - 1 + 1) * 2 ^ d ≤ n
        rw [show n / 2 ^ d - 1 + 1 = n / 2 ^ d from by omega]; exact Nat.div_mul_le_self _ _
      · cases h
    · exact mt_fit n d b h
theorem pk_take (k : Int) (l : List ByteArray) (m : Nat) (hm : m ≤ l.length) : MT.pks k (l.take m) = MT.pkL k l m 41 := by
  unfold MT.pks MT.pkL
  rw [List.length_take, Nat.min_eq_left hm]
  apply List.map_congr_left
  intro b hb
  unfold MT.trB
  rw [MT.sl_take l m b.1 b.2 (mt_fit m 41 b hb)]
theorem tr_take (k : Int) (l : List ByteArray) (m : Nat) (h i : Nat) (hi : (i + 1) * 2 ^ h ≤ m) : MT.trB k (l.take m) (h, i) = MT.trB k l (h, i) := by
  unfold MT.trB; simp only []; rw [MT.sl_take l m h i hi]
end Go.Proofs.Ytgooamgpojeeaaa.Pk
