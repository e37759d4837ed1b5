/- Ranges as lists, without program: what carry makes of peaks, what a range must be. No condition, no program. -/
import Derived.Test.YtdclafjgfnbibaaMP
import Derived.Test.YtdclafjgfnbibaaMH
set_option linter.unusedVariables false
set_option linter.unusedSimpArgs false
namespace Go.Proofs.Ytdclafjgfnbibaa.Pk
open Go.RowKit Go.Proofs.Ytdclafjgfnbibaa.MB Go.Proofs.YtdclafjgfnbibaaW.PrintWords
/-- How many trees carry puts together: the ones at the end. -/
def t1 (m : Nat) : Nat := tr (m + 1)
theorem div_pred (m i c : Nat) (h : m + 1 = 2 ^ i * c) : m / 2 ^ i = c - 1 := by
  have hp : 0 < 2 ^ i := Nat.pow_pos (by omega)
  obtain ⟨c', rfl⟩ : ∃ c', c = c' + 1 := ⟨c - 1, by rcases c with _ | c <;> simp_all⟩
  have e : m = 2 ^ i * c' + (2 ^ i - 1) := by rw [Nat.mul_add] at h; omega
  rw [e, Nat.mul_add_div hp, Nat.div_eq_of_lt (by omega)]; omega
theorem t1_spec (m : Nat) (h : m + 1 < 2 ^ 64) : (m + 1) % 2 ^ t1 m = 0 ∧ bit (m + 1) (t1 m) = 1 := (tr_spec (m + 1) (by omega) h).2
theorem t1_odd (m i : Nat) (h : m + 1 < 2 ^ 64) (hi : i < t1 m) : m / 2 ^ i % 2 = 1 := by
  have h1 := (t1_spec m h).1
  have e : m + 1 = 2 ^ i * (2 * (2 ^ (t1 m - i - 1) * ((m + 1) / 2 ^ t1 m))) := by
    have e1 : m + 1 = 2 ^ t1 m * ((m + 1) / 2 ^ t1 m) := by have := Nat.div_add_mod (m + 1) (2 ^ t1 m); omega
    have e2 : 2 ^ t1 m = 2 ^ i * (2 * 2 ^ (t1 m - i - 1)) := by rw [← Nat.pow_succ', ← Nat.pow_add]; congr 1; omega
    rw [← Nat.mul_assoc 2, ← Nat.mul_assoc (2 ^ i), ← e2]; exact e1
  rw [div_pred m i _ e]
  have : 0 < 2 ^ (t1 m - i - 1) * ((m + 1) / 2 ^ t1 m) := by
    rcases Nat.eq_zero_or_pos (2 ^ (t1 m - i - 1) * ((m + 1) / 2 ^ t1 m)) with h0 | h0
    · rw [h0] at e; omega
    · exact h0
  omega
theorem t1_even (m : Nat) (h : m + 1 < 2 ^ 64) : m / 2 ^ t1 m % 2 = 0 := by
  have h1 := t1_spec m h
  have e1 : m + 1 = 2 ^ t1 m * ((m + 1) / 2 ^ t1 m) := by have := Nat.div_add_mod (m + 1) (2 ^ t1 m); omega
  rw [div_pred m _ _ e1]
  have := h1.2; unfold bit at this; omega
theorem t1_le_ones (m : Nat) (h : m + 1 < 2 ^ 64) : t1 m ≤ ones m := by
  have h1 := ones_pred 64 (m + 1) (by omega) h
  have e : m + 1 - 1 = m := by omega
  rw [e] at h1
  have h2 : onesF 64 m + 1 = onesF 64 (m + 1) + trF 64 (m + 1) := h1
  have h3 : 0 < ones (m + 1) := ones_pos (m + 1) (by omega) h
  unfold ones at *; unfold t1 tr; omega
theorem ones_next (m : Nat) (h : m + 1 < 2 ^ 64) : ones (m + 1) = ones m - t1 m + 1 := by
  have h1 := ones_pred 64 (m + 1) (by omega) h
  have e : m + 1 - 1 = m := by omega
  rw [e] at h1
  have h2 : onesF 64 m + 1 = onesF 64 (m + 1) + trF 64 (m + 1) := h1
  have h3 := t1_le_ones m h
  unfold ones at *; unfold t1 tr at *; omega
theorem ones_mul (m h : Nat) (hm : m * 2 ^ h < 2 ^ 64) : ones (m * 2 ^ h) = ones m := by
  have := ones_join h m 0 (Nat.pow_pos (by omega)) (by omega)
  rw [ones_zero] at this; simpa using this
/-- What the last peaks and a tree come to, i of them put together. -/
def ups (k : Int) (L : List ByteArray) (d : ByteArray) : Nat → ByteArray
  | 0 => d
  | i + 1 => MH.nd k (L.getD (L.length - 1 - i) ByteArray.empty) (ups k L d i)
def mades (k : Int) (L : List ByteArray) (d : ByteArray) (t : Nat) : List ByteArray := (List.range (t + 1)).map (ups k L d)
def carL (k : Int) (L : List ByteArray) (d : ByteArray) (t : Nat) : List ByteArray := L.take (L.length - t) ++ [ups k L d t]
theorem mades_succ (k : Int) (L : List ByteArray) (d : ByteArray) (t : Nat) : mades k L d (t + 1) = mades k L d t ++ [ups k L d (t + 1)] := by
  unfold mades; rw [List.range_succ (n := t + 1), List.map_append]; rfl
theorem mades_len (k : Int) (L : List ByteArray) (d : ByteArray) (t : Nat) : (mades k L d t).length = t + 1 := by unfold mades; simp
theorem ups_size (k : Int) (hk : 1 ≤ k ∧ k ≤ 32) (L : List ByteArray) (d : ByteArray) (hd : (d.size : Int) = k) : ∀ i, ((ups k L d i).size : Int) = k
  | 0 => hd
  | i + 1 => by rw [ups, MH.nd_size]; exact MH.hK_of k hk
/-- What a range must be. -/
structure Inv (k : Int) (n : Nat) (L : List ByteArray) : Prop where
  k1 : 1 ≤ k
  k2 : k ≤ 32
  n1 : n ≤ 2 ^ 40
  len : L.length = ones n
  sz : ∀ s ∈ L, (s.size : Int) = k
theorem Inv.t (k : Int) (n : Nat) (L : List ByteArray) (hI : Inv k n L) (h : Nat) (hh : h ≤ 40) : t1 (n / 2 ^ h) ≤ L.length ∧ L.length ≤ 64 := by
  have hp : 0 < 2 ^ h := Nat.pow_pos (by omega)
  have h1 := hI.n1
  have hd : n / 2 ^ h ≤ n := Nat.div_le_self _ _
  have e : n / 2 ^ h * 2 ^ h + n % 2 ^ h = n := by rw [Nat.mul_comm]; exact Nat.div_add_mod n _
  have hj := ones_join h (n / 2 ^ h) (n % 2 ^ h) (Nat.mod_lt _ hp) (by rw [e]; omega)
  rw [e] at hj
  have := t1_le_ones (n / 2 ^ h) (by omega)
  have := hI.len
  have := ones_le n
  omega
/-- Behind a tree of 2^h items: it is one still. -/
theorem Inv.next (k : Int) (n : Nat) (L : List ByteArray) (hI : Inv k n L) (h : Nat) (hh : h ≤ 40) (d : ByteArray) (hd : (d.size : Int) = k) (hm : n % 2 ^ h = 0) (hs : n + 2 ^ h ≤ 2 ^ 40) :
    Inv k (n + 2 ^ h) (carL k L d (t1 (n / 2 ^ h))) := by
  have hp : 0 < 2 ^ h := Nat.pow_pos (by omega)
  have hT := Inv.t k n L hI h hh
  have hdle : n / 2 ^ h ≤ n := Nat.div_le_self _ _
  have hn1 := hI.n1
  have e : n / 2 ^ h * 2 ^ h = n := by have := Nat.div_add_mod n (2 ^ h); rw [Nat.mul_comm]; omega
  have e2 : (n / 2 ^ h + 1) * 2 ^ h = n + 2 ^ h := by rw [Nat.add_mul, e]; omega
  refine ⟨hI.k1, hI.k2, hs, ?_, ?_⟩
  · have o1 : ones (n + 2 ^ h) = ones (n / 2 ^ h + 1) := by rw [← e2]; exact ones_mul _ _ (by rw [e2]; omega)
    have o2 : ones n = ones (n / 2 ^ h) := by
      have := ones_mul (n / 2 ^ h) h (by rw [e]; omega)
      rw [e] at this; exact this
    rw [o1, ones_next _ (by omega)]
    unfold carL
    rw [List.length_append, List.length_take, List.length_singleton]
    have := hI.len
    omega
  · intro s hs
    unfold carL at hs
    rcases List.mem_append.1 hs with h1 | h1
    · exact hI.sz s (List.mem_of_mem_take h1)
    · rw [List.mem_singleton.1 h1]; exact ups_size k ⟨hI.k1, hI.k2⟩ L d hd _
end Go.Proofs.Ytdclafjgfnbibaa.Pk
