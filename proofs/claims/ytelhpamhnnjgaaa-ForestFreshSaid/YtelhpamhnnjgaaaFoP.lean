/- What a forest tells of a list's blocks, and how an item turns it. No condition, no program. -/
import Derived.Test.YtelhpamhnnjgaaaPkP
import Derived.Test.YtelhpamhnnjgaaaMT
import Derived.Test.YtelhpamhnnjgaaaMp
set_option linter.unusedVariables false
set_option linter.unusedSimpArgs false
namespace Go.Proofs.Ytelhpamhnnjgaaa.Fo
open Go.RowKit Go.Proofs.Ytelhpamhnnjgaaa.MB Go.Proofs.Ytelhpamhnnjgaaa.MH Go.Proofs.Ytelhpamhnnjgaaa.Pk
/-- The blocks of a list's mountains, with their digests. -/
def fo (k : Int) (l : List ByteArray) (h i : Int) : Option ByteArray := if 0 ≤ h ∧ 0 ≤ i ∧ (i.toNat + 1) * 2 ^ h.toNat ≤ l.length then some (MT.trB k l (h.toNat, i.toNat)) else none
/-- .. while an item is brought in, up to height j. -/
def foS (k : Int) (l : List ByteArray) (n j : Nat) (h i : Int) : Option ByteArray := if 0 ≤ h ∧ 0 ≤ i ∧ ((i.toNat + 1) * 2 ^ h.toNat ≤ n ∨ (h.toNat ≤ j ∧ i.toNat = n / 2 ^ h.toNat)) then some (MT.trB k l (h.toNat, i.toNat)) else none
theorem up_fit (i : Nat) (hi : i + 1 ≤ 2 ^ 40) (j : Nat) (hj : j ≤ t1 i) : (i / 2 ^ j + 1) * 2 ^ j = i + 1 := by
  have h1 := (t1_spec i (by omega)).1
  have e : i + 1 = 2 ^ j * (2 ^ (t1 i - j) * ((i + 1) / 2 ^ t1 i)) := by
    have e1 : i + 1 = 2 ^ t1 i * ((i + 1) / 2 ^ t1 i) := by have := Nat.div_add_mod (i + 1) (2 ^ t1 i); omega
    have e2 : 2 ^ t1 i = 2 ^ j * 2 ^ (t1 i - j) := by rw [← Nat.pow_add]; congr 1; omega
    rw [← Nat.mul_assoc, ← e2]; exact e1
  obtain ⟨c, hc⟩ : ∃ c, c = 2 ^ (t1 i - j) * ((i + 1) / 2 ^ t1 i) := ⟨_, rfl⟩
  rw [← hc] at e
  have hc0 : 0 < c := by
    rcases Nat.eq_zero_or_pos c with h0 | h0
    · rw [h0, Nat.mul_zero] at e; exact absurd e (Nat.succ_ne_zero _)
    · exact h0
  rw [div_pred i j c e, show c - 1 + 1 = c from by omega, Nat.mul_comm]; exact e.symm
theorem t1_le (i : Nat) (hi : i + 1 ≤ 2 ^ 40) : t1 i ≤ 40 := by
  have hf := up_fit i hi (t1 i) (Nat.le_refl _)
  have : 2 ^ t1 i ≤ (i / 2 ^ t1 i + 1) * 2 ^ t1 i := Nat.le_mul_of_pos_left _ (Nat.succ_pos _)
  rw [hf] at this
  exact (Nat.pow_le_pow_iff_right (a := 2) (by omega)).1 (Nat.le_trans this hi)
theorem tr_app (k : Int) (l m : List ByteArray) (h i : Nat) (hi : (i + 1) * 2 ^ h ≤ l.length) : MT.trB k (l ++ m) (h, i) = MT.trB k l (h, i) := by
  unfold MT.trB; simp only []; rw [MT.sl_append l m h i hi]
theorem fo_none (k : Int) : fo k [] = fun _ _ => none := by
  funext h i; unfold fo; rw [if_neg]
  rintro ⟨_, _, h3⟩
  have : 0 < (i.toNat + 1) * 2 ^ h.toNat := Nat.mul_pos (by omega) (Nat.pow_pos (by omega))
  simp only [List.length_nil] at h3; omega
/-- The leaf. -/
theorem fo_first (k : Int) (l : List ByteArray) (x : ByteArray) : Mp.put (fo k l) 0 (l.length : Int) (lf k x) = foS k (l ++ [x]) l.length 0 := by
  funext h i
  unfold Mp.put foS fo
  by_cases c : h = 0 ∧ i = (l.length : Int)
  · obtain ⟨rfl, rfl⟩ := c
    rw [if_pos ⟨rfl, rfl⟩, if_pos ⟨by omega, by omega, Or.inr ⟨by omega, by simp⟩⟩, Int.toNat_natCast]
    have e : MT.trB k (l ++ [x]) (0, l.length) = lf k ((l ++ [x])[l.length]'(by simp)) := MT.trB_leaf k _ _ (by simp)
    rw [show (0 : Int).toNat = 0 from rfl, e]; simp
  · rw [if_neg c]
    by_cases d : 0 ≤ h ∧ 0 ≤ i ∧ (i.toNat + 1) * 2 ^ h.toNat ≤ l.length
    · rw [if_pos d, if_pos ⟨d.1, d.2.1, Or.inl d.2.2⟩, tr_app k l [x] _ _ d.2.2]
    · rw [if_neg d, if_neg]
      rintro ⟨h1, h2, h3 | ⟨h3, h4⟩⟩
      · exact d ⟨h1, h2, h3⟩
      · have h5 : h.toNat = 0 := by omega
        rw [h5, Nat.pow_zero, Nat.div_one] at h4
        exact c ⟨by omega, by omega⟩
/-- A node above. -/
theorem fo_next (k : Int) (l : List ByteArray) (n j : Nat) : Mp.put (foS k l n j) ((j + 1 : Nat) : Int) ((n / 2 ^ (j + 1) : Nat) : Int) (MT.trB k l (j + 1, n / 2 ^ (j + 1))) = foS k l n (j + 1) := by
  funext h i
  unfold Mp.put foS
  by_cases c : h = ((j + 1 : Nat) : Int) ∧ i = ((n / 2 ^ (j + 1) : Nat) : Int)
  · obtain ⟨rfl, rfl⟩ := c
    rw [if_pos ⟨rfl, rfl⟩, Int.toNat_natCast, Int.toNat_natCast, if_pos ⟨Int.natCast_nonneg _, Int.natCast_nonneg _, Or.inr ⟨Nat.le_refl _, rfl⟩⟩]
  · rw [if_neg c]
    by_cases d : 0 ≤ h ∧ 0 ≤ i ∧ ((i.toNat + 1) * 2 ^ h.toNat ≤ n ∨ (h.toNat ≤ j ∧ i.toNat = n / 2 ^ h.toNat))
    · rw [if_pos d, if_pos]
      obtain ⟨h1, h2, h3 | ⟨h3, h4⟩⟩ := d
      · exact ⟨h1, h2, Or.inl h3⟩
      · exact ⟨h1, h2, Or.inr ⟨by omega, h4⟩⟩
    · rw [if_neg d, if_neg]
      rintro ⟨h1, h2, h3 | ⟨h3, h4⟩⟩
      · exact d ⟨h1, h2, Or.inl h3⟩
      · rcases Nat.lt_or_ge j h.toNat with h5 | h5
        · have h6 : h.toNat = j + 1 := by omega
          rw [h6] at h4
          exact c ⟨by omega, by omega⟩
        · exact d ⟨h1, h2, Or.inr ⟨h5, h4⟩⟩
/-- The end. -/
theorem fo_last (k : Int) (l : List ByteArray) (x : ByteArray) (hl : l.length + 1 ≤ 2 ^ 40) : foS k (l ++ [x]) l.length (t1 l.length) = fo k (l ++ [x]) := by
  funext h i
  unfold foS fo
  have hlen : (l ++ [x]).length = l.length + 1 := by simp
  rw [hlen]
  by_cases d : 0 ≤ h ∧ 0 ≤ i ∧ (i.toNat + 1) * 2 ^ h.toNat ≤ l.length + 1
  · rw [if_pos d, if_pos]
    refine ⟨d.1, d.2.1, ?_⟩
    rcases Nat.lt_or_ge l.length ((i.toNat + 1) * 2 ^ h.toNat) with h5 | h5
    · refine Or.inr ?_
      have h6 : (i.toNat + 1) * 2 ^ h.toNat = l.length + 1 := by omega
      have h7 : l.length / 2 ^ h.toNat = i.toNat + 1 - 1 := div_pred _ _ _ (by rw [Nat.mul_comm]; exact h6.symm)
      refine ⟨?_, by omega⟩
      rcases Nat.lt_or_ge (t1 l.length) h.toNat with h8 | h8
      · exfalso
        have hs := (t1_spec l.length (by omega)).2
        unfold bit at hs
        have h9 : (l.length + 1) = 2 ^ t1 l.length * (2 * ((i.toNat + 1) * 2 ^ (h.toNat - t1 l.length - 1))) := by
          have e2 : 2 ^ h.toNat = 2 ^ t1 l.length * (2 * 2 ^ (h.toNat - t1 l.length - 1)) := by rw [← Nat.pow_succ', ← Nat.pow_add]; congr 1; omega
          rw [← h6, e2, Nat.mul_left_comm (i.toNat + 1), Nat.mul_left_comm (i.toNat + 1)]
        rw [h9, Nat.mul_div_cancel_left _ (Nat.pow_pos (by omega))] at hs
        omega
      · exact h8
    · exact Or.inl h5
  · rw [if_neg d, if_neg]
    rintro ⟨h1, h2, h3 | ⟨h3, h4⟩⟩
    · exact d ⟨h1, h2, by omega⟩
    · refine d ⟨h1, h2, ?_⟩
      rw [h4, up_fit l.length hl h.toNat h3]; exact Nat.le_refl _
/-- The left sibling that is looked for. -/
theorem fo_left (k : Int) (l : List ByteArray) (n j : Nat) (hn : n + 1 < 2 ^ 64) (hj : j < t1 n) :
    foS k l n j (j : Int) ((n / 2 ^ j : Nat) - 1 : Int) = some (MT.trB k l (j, 2 * (n / 2 ^ (j + 1)))) ∧ nd k (MT.trB k l (j, 2 * (n / 2 ^ (j + 1)))) (MT.trB k l (j, n / 2 ^ j)) = MT.trB k l (j + 1, n / 2 ^ (j + 1)) ∧ 1 ≤ n / 2 ^ j := by
  have ho := t1_odd n j hn hj
  have e1 : n / 2 ^ (j + 1) = n / 2 ^ j / 2 := by rw [Nat.pow_succ, ← Nat.div_div_eq_div_mul]
  have e2 : n / 2 ^ j = 2 * (n / 2 ^ (j + 1)) + 1 := by omega
  refine ⟨?_, ?_, by omega⟩
  · unfold foS
    have e3 : (((n / 2 ^ j : Nat) : Int) - 1).toNat = 2 * (n / 2 ^ (j + 1)) := by omega
    rw [e3, Int.toNat_natCast, if_pos]
    refine ⟨by omega, by omega, Or.inl ?_⟩
    rw [← e2]; exact Nat.div_mul_le_self _ _
  · rw [MT.trB_node, ← e2]
/-- What Append answers. -/
def madeL (k : Int) (l : List ByteArray) (n j : Nat) : List ByteArray := (List.range (j + 1)).map (fun i => MT.trB k l (i, n / 2 ^ i))
theorem madeL_zero (k : Int) (l : List ByteArray) (x : ByteArray) : madeL k (l ++ [x]) l.length 0 = [lf k x] := by
  have e : MT.trB k (l ++ [x]) (0, l.length) = lf k ((l ++ [x])[l.length]'(by simp)) := MT.trB_leaf k _ _ (by simp)
  unfold madeL
  show [MT.trB k (l ++ [x]) (0, l.length / 2 ^ 0)] = _
  rw [Nat.pow_zero, Nat.div_one, e]; simp
theorem madeL_succ (k : Int) (l : List ByteArray) (n j : Nat) : madeL k l n (j + 1) = madeL k l n j ++ [MT.trB k l (j + 1, n / 2 ^ (j + 1))] := by
  unfold madeL; rw [List.range_succ (n := j + 1), List.map_append]; rfl
theorem madeL_len (k : Int) (l : List ByteArray) (n j : Nat) : (madeL k l n j).length = j + 1 := by unfold madeL; simp
end Go.Proofs.Ytelhpamhnnjgaaa.Fo
