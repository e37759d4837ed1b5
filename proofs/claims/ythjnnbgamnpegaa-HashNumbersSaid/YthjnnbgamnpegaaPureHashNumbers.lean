/- massiflaw07.HashNumbers answers true for every number and text of the parameters' types. No further condition. -/
import Derived.Test.YthjnnbgamnpegaaQHashNumbers
import Derived.Test.YthjnnbgamnpegaaPHashNumbersx
set_option linter.unusedVariables false
namespace Go.Proofs.Ythjnnbgamnpegaa.Pure
open Go Go.RowKit Go.Proofs.Ythjnnbgamnpegaa.PHashNumbers Go.Proofs.YthjnnbgamnpegaaW.PrintWords Go.Proofs.YthjnnbgamnpegaaW.PrintLast Go.Proofs.Ythjnnbgamnpegaa
theorem big8 (n : Int) : MH.big n 8 = [n / 2 ^ 56 % 256, n / 2 ^ 48 % 256, n / 2 ^ 40 % 256, n / 2 ^ 32 % 256, n / 2 ^ 24 % 256, n / 2 ^ 16 % 256, n / 2 ^ 8 % 256, n / 2 ^ 0 % 256] := rfl
theorem big_at (n : Int) : ∀ (j : Nat) (h : j < (MH.big n 8).length), (MH.big n 8)[j] = n / 2 ^ (56 - 8 * j) % 256
  | 0, _ => rfl
  | 1, _ => rfl
  | 2, _ => rfl
  | 3, _ => rfl
  | 4, _ => rfl
  | 5, _ => rfl
  | 6, _ => rfl
  | 7, _ => rfl
  | j + 8, h => absurd h (by rw [MH.big_len]; omega)
theorem big_range (n : Int) : ∀ x ∈ (3 : Int) :: MH.big n 8, 0 ≤ x ∧ x ≤ 255 := by
  intro x hx
  rcases List.mem_cons.1 hx with h | h
  · omega
  · obtain ⟨j, hj, rfl⟩ := List.getElem_of_mem h
    rw [big_at]
    generalize n / 2 ^ (56 - 8 * j) = q
    omega
theorem str_at (l : List Int) (i : Nat) (hi : i < l.length) (h : i < (strOfNums l).size) : (strOfNums l)[i] = UInt8.ofNat (l[i]).toNat := by
  have e : (strOfNums l).data[i]? = some (UInt8.ofNat (l[i]).toNat) := by
    show (List.toArray (l.map fun n => UInt8.ofNat n.toNat))[i]? = _
    rw [List.getElem?_toArray, List.getElem?_map, List.getElem?_eq_getElem hi]; rfl
  exact (Array.getElem?_eq_some_iff.1 e).2
theorem bt_str (l : List Int) (d : ByteArray) (i : Nat) (hi : i < l.length) (h : ∀ x ∈ l, 0 ≤ x ∧ x ≤ 255) : bt (strOfNums l ++ d) (i : Int) = l[i] := by
  have h1 : i < (strOfNums l ++ d).size := by rw [ByteArray.size_append, MH.str_size]; omega
  rw [← bt_at _ _ (by rw [Int.toNat_natCast]; exact h1)]
  have h2 : i < (strOfNums l).size := by rw [MH.str_size]; exact hi
  have e : (strOfNums l ++ d)[i]'h1 = (strOfNums l)[i]'h2 := ByteArray.getElem_append_left h2
  have hx := h l[i] (List.getElem_mem hi)
  simp only [Int.toNat_natCast, e]
  rw [str_at l i hi h2, UInt8.toNat_ofNat']
  omega
theorem rootT_eq (n : Int) (d : ByteArray) : MH.rootT n d = strOfNums ((3 : Int) :: MH.big n 8) ++ d := by
  unfold MH.rootT
  congr 1
theorem rootT_drop (n : Int) (d : ByteArray) : (MH.rootT n d).extract 9 (MH.rootT n d).size = d := by
  have e9 : (strOfNums ((3 : Int) :: MH.big n 8)).size = 9 := by rw [MH.str_size]; simp [MH.big_len]
  have hs := MH.rootT_size n d
  rw [hs, rootT_eq, ByteArray.extract_append, e9]
  rw [show (strOfNums ((3 : Int) :: MH.big n 8)).extract 9 (9 + d.size) = ByteArray.empty from by
    apply ByteArray.ext
    rw [ByteArray.data_extract]
    apply Array.eq_empty_of_size_eq_zero
    rw [Array.size_extract]
    have : (strOfNums ((3 : Int) :: MH.big n 8)).data.size = 9 := e9
    omega]
  rw [ByteArray.empty_append]
  apply ByteArray.ext
  rw [ByteArray.data_extract]
  have e : d.data.size = d.size := rfl
  rw [show 9 - 9 = 0 from rfl, show 9 + d.size - 9 = d.size from by omega, ← e, Array.extract_size]
theorem step_num (x : Int) : x / 256 * 256 + x % 256 = x := by omega
theorem nums_loop (n : Int) (d : ByteArray) (h0 : 0 ≤ n) (h1 : n ≤ 18446744073709551615) (hd : d.size ≤ 140737488351232) : ∀ (e i K : Nat), i + e = 8 → e < K → massiflaw07_HashNumbers.l0 K n (MH.rootT n d) (n / 2 ^ (64 - 8 * i)) ((i + 1 : Nat) : Int) = some true := by
  have hs := MH.rootT_size n d
  intro e
  induction e with
  | zero =>
    intro i K hi hK
    obtain ⟨K, rfl⟩ : ∃ m, K = m + 1 := ⟨K - 1, by omega⟩
    have : i = 8 := by omega
    subst this
    rw [massiflaw07_HashNumbers.l0, if_neg (by omega)]
    simp
  | succ e ih =>
    intro i K hi hK
    obtain ⟨K, rfl⟩ : ∃ m, K = m + 1 := ⟨K - 1, by omega⟩
    have hb : bt (MH.rootT n d) ((i + 1 : Nat) : Int) = n / 2 ^ (56 - 8 * i) % 256 := by
      rw [rootT_eq, bt_str _ d (i + 1) (by simp [MH.big_len]; omega) (big_range n)]
      simp only [List.getElem_cons_succ]
      exact big_at n i _
    have hq : n / 2 ^ (64 - 8 * i) = n / 2 ^ (56 - 8 * i) / 256 := by
      rw [show 64 - 8 * i = (56 - 8 * i) + 8 from by omega, Int.pow_add, ← Int.ediv_ediv_of_nonneg (Int.le_of_lt (Int.pow_pos (by decide)))]
      rfl
    have hx0 : 0 ≤ n / 2 ^ (56 - 8 * i) := Int.ediv_nonneg h0 (Int.le_of_lt (Int.pow_pos (by decide)))
    have hx1 : n / 2 ^ (56 - 8 * i) ≤ n := Int.ediv_le_self _ h0
    have ihi := ih (i + 1) K (by omega) (by omega)
    rw [show 64 - 8 * (i + 1) = 56 - 8 * i from by omega] at ihi
    rw [massiflaw07_HashNumbers.l0, if_pos (by omega), if_pos (by omega), if_pos (by omega), hb, hq]
    clear hb hq
    generalize n / 2 ^ (56 - 8 * i) = x at *
    rw [IntWalk.u64_in (x / 256 * 256) (by omega), IntWalk.u64_in (x % 256) (by omega), step_num, IntWalk.u64_in x (by omega), IntWalk.wrap64_in _ (by omega)]
    exact ihi
theorem HashNumbers : massiflaw07_HashNumbers.Pure := by
  intro n d w0 hd
  have hn : 0 ≤ n ∧ n ≤ 18446744073709551615 := by
    simp [Lit.wf, IntKind.min, IntKind.max, IntKind.signed, IntKind.bits] at w0
    omega
  have hs := MH.rootT_size n d
  have hb0 : bt (MH.rootT n d) 0 = 3 := by
    have := bt_str ((3 : Int) :: MH.big n 8) d 0 (by simp) (big_range n)
    rw [← rootT_eq] at this
    exact this
  refine ⟨40, ?_⟩
  unfold massiflaw07_HashNumbers.f
  rw [hash_RootText.is n d (by omega), massiflaw07_alive.is 40 (by omega), Option.bind_some, Option.bind_some, if_pos rfl]
  rw [IntWalk.wrap64_in _ (by omega), if_pos (by omega), if_pos (by omega), if_pos hb0, if_pos (by omega), rootT_drop]
  rw [show (d.toList != d.toList) = false from by simp, massiflaw07_HashNumbers.j0, if_neg (by simp)]
  have := nums_loop n d hn.1 hn.2 hd 8 0 39 (by omega) (by omega)
  rw [show ((2 : Int) ^ (64 - 8 * 0)) = 18446744073709551616 from by simp, Int.ediv_eq_zero_of_lt hn.1 (by omega)] at this
  exact this
end Go.Proofs.Ythjnnbgamnpegaa.Pure
